/-
  Lemmas: The reference's inside and names. The reference's store and Store. The reference's Store, Set and Remove. What Store, Set and Remove answer, as one thing; cordwoodlaw09.samePool.
-/
import Derived.Test.YtmdhlkkekidknaaGreatDoorV11
import Derived.Test.YtmdhlkkekidknaaGreatDoorV4
import Derived.Test.YtmdhlkkekidknaaGreatDoorV14
import Derived.Test.YtmdhlkkekidknaaGreatDoorV2
import Derived.Test.YtmdhlkkekidknaaGreatDoorV15e

namespace Go.Proofs.YtmdhlkkekidknaaGreatDoor
open Go.RowKit

set_option maxRecDepth 100000 in
set_option maxHeartbeats 8000000 in
theorem inside9_any (A : Option Addr) (n c B : Nat) (l : List Fl) (s : ByteArray) (w : World) (h0 : Sl w B 2 A n (flat flC l)) (hB : B ≤ w.heap.size) (hn : n ≤ 1000000) (hs : ∀ f ∈ l, f.1.size ≤ 1000000) :
    Calls Tryz.prog 95 #[.slice A n c, .string s] w (FlsE (inD l s) w) := by
  have HL := Lib.hid (h0.len flC_len (by omega))
  have H0 := Lib.hid h0; have HS := Lib.hid hs; clear h0 hs
  obtain ⟨i0, hi, hz0, hz1, hz2⟩ := info_parts infoFlI
  have Hi := Lib.hid hi; have Hz0 := Lib.hid hz0; have Hz1 := Lib.hid hz1; have Hz2 := Lib.hid hz2
  clear hi hz0 hz1 hz2
  go_enter Tryz.func95, Tryz.ntmps95
  go_wp2_with fail
  go_loopw [5, 6] (fun q i wr => ∃ (k : Nat) (A' : Option Addr) (m c' : Nat), k ≤ n ∧ i = .int .i64 (k : Int) ∧ q = .slice A' m c' ∧ m = (inD (l.take k) s).length ∧ m ≤ c' ∧ c' ≤ maxLen ∧ Hid (Apd wr w.heap.size 68 2 A' m c' (flat flC (inD (l.take k) s))) ∧ Hid (Below w.heap.size w wr)) (fun _ i _ => n - (intOf i).toNat)
  case atStart => exact ⟨0, _, 0, 0, Nat.zero_le _, rfl, rfl, by rw [List.take_zero]; rfl, Nat.le_refl _, Nat.zero_le _, .inr ⟨rfl, rfl, by rw [List.take_zero]; rfl⟩, (Below.refl _ w).alloc (Nat.le_refl _) _⟩
  case round =>
    obtain ⟨k, A', m, c', hk, rfl, rfl, hm, hmc, hcm, hO, hBel⟩ := hrel
    by_cases hlt : k < n
    · have hlz : (k : Int) < (n : Int) := by omega
      obtain ⟨b, off, f, rfl, hb, hf, y0, y1⟩ := (H0.out.below hBel.out hB).fl hlt
      have HTK := Lib.hid (take_snoc hf)
      have HSN := Lib.hid (inD_snoc (l.take k) f s)
      rw [← HTK.out] at HSN
      have HM : Hid (m = (inD (l.take k) s).length) := hm
      have hm6 : m ≤ k := by rw [HM.out]; have := inD_len (l.take k) s; rw [List.length_take] at this; omega
      have HO := Lib.hid hO.out; have HBE := Lib.hid hBel.out
      have HC := Lib.hid (cut9_any f.1 wr (HS.out f (List.mem_of_getElem? hf)))
      unfold CutEnd at HC
      have zr : w.heap.size ≤ wr.heap.size := HBE.out.size
      clear hf hm hO hBel
      obtain ⟨fp, fd⟩ := f
      simp only at y0 y1 HSN HC
      go_wp2_with (go_at_call 75; refine HC.out.mono ?_; rintro e w5 ⟨a0, b0, m0, rfl, hcr, hb5⟩; refine halt_ ?_)
      refine unhalt ?_
      obtain ⟨ea, eb, em⟩ := cutR_eq hcr
      rw [← ea, ← eb, ← em] at HSN
      have y1 := (hb5.cell (p := ⟨b, off + k * 2 + 1, none⟩) (by show b < _; omega)).trans y1
      have HO5 := Lib.hid (HO.out.below hb5)
      have HB5 : Hid (Below w.heap.size w w5) := HBE.out.trans (hb5.mono zr)
      have zr5 : w.heap.size ≤ w5.heap.size := HB5.out.size
      clear hb5 HC HO HBE y0 hcr ea eb em
      have t2 := str_dec a0 s
      by_cases hc : m0 = true ∧ a0 = s
      · obtain ⟨rfl, rfl⟩ := hc
        have HS2 : Hid (inD (l.take (k + 1)) a0 = inD (l.take k) a0 ++ [(b0, fd)]) := by have := HSN.out; rw [if_pos ⟨rfl, rfl⟩] at this; exact this
        rw [decide_eq_true rfl] at t2
        clear HSN
        go_wp2_with (at_builtin; refine halt_app9 (.tmp 33) (.tmp 41) 24 rfl ?_)
        refine unhalt ?_
        refine wpList_append_apd (base := w.heap.size) (size := 2) _ rfl (.tmp 33) (.tmp 41) 24 rfl 68 i0 _ 32 Tryz.underlying24 Hi.out Hz0.out Hz1.out Hz2.out rfl (by decide) A' m c' _ rfl (HO5.out.below ((Below.refl _ _).alloc (Nat.le_refl _) _)) _ _ 1 1 (flat flC [(b0, fd)]) rfl (Sl.of_bk (n := 1) (size := 2) (Bk.new _ _ _) rfl) (flC_one _) (by unfold maxLen; omega) (by omega) (by rw [World.size_alloc]; exact Nat.le_succ_of_le zr5) ?_
        intro A4 c4 w4 ha4 hb4 hn4 hm4 _
        rw [← flat_append, ← HS2.out] at ha4
        have HA4 := Lib.hid ha4
        have HB4 : Hid (Below w.heap.size w w4) := (HB5.out.alloc zr5 _).trans hb4
        have HN4 : Hid (m + 1 = (inD (l.take (k + 1)) a0).length) := by show _ = _; rw [HS2.out, List.length_append, ← HM.out]; rfl
        clear ha4 hb4 HO5 HB5 y1
        go_wp2_with fail
        go_roundw
        case rel => exact ⟨k + 1, A4, m + 1, c4, hlt, by go_num, rfl, HN4.out, hn4, hm4, HA4.out, HB4.out⟩
        case measure => simp [intOf]; omega
      · have HS2 : Hid (inD (l.take (k + 1)) s = inD (l.take k) s) := by have := HSN.out; rw [if_neg hc, List.append_nil] at this; exact this
        clear HSN
        cases m0 with
        | false =>
          clear hc
          go_wp2_with fail
          go_roundw
          case rel => exact ⟨k + 1, A', m, c', hlt, by go_num, rfl, by rw [HS2.out]; exact HM.out, hmc, hcm, by rw [HS2.out]; exact HO5.out, HB5.out⟩
          case measure => simp [intOf]; omega
        | true =>
          have hne : a0 ≠ s := fun e => hc ⟨rfl, e⟩
          rw [decide_eq_false hne] at t2
          clear hne hc
          go_wp2_with fail
          go_roundw
          case rel => exact ⟨k + 1, A', m, c', hlt, by go_num, rfl, by rw [HS2.out]; exact HM.out, hmc, hcm, by rw [HS2.out]; exact HO5.out, HB5.out⟩
          case measure => simp [intOf]; omega
    · have hlz : ¬ (k : Int) < (n : Int) := by omega
      have HE : Hid (l.take k = l) := List.take_of_length_le (by rw [HL.out]; omega)
      have HM : Hid (m = (inD (l.take k) s).length) := hm
      have HO := Lib.hid hO.out; have HBE := Lib.hid hBel.out
      clear hm hO hBel
      go_wp2_with fail
      go_ret
      have h1 := HO.out.sl
      have h2 := HM.out
      rw [HE.out] at h1 h2
      exact ⟨A', c', by rw [← h2]; rfl, by rw [← h2]; exact h1, by rw [← h2]; exact hmc, hcm, HBE.out⟩
theorem posS_at9 : ∀ {l : List ByteArray} {s : ByteArray} {k : Nat}, (∀ y ∈ l.take k, less y s = true) → k ≤ l.length → (k = l.length ∨ ∃ y, l[k]? = some y ∧ less y s = false) → posS l s = k
  | [], s, k, _, h, _ => by simp at h; simp [posS, h]
  | r :: l, s, 0, _, _, h => by
    rcases h with h | ⟨y, hy, h⟩
    · simp at h
    · simp at hy; subst hy; simp [posS, h]
  | r :: l, s, k + 1, h1, h2, h3 => by
    have hr := h1 r (by simp)
    simp only [posS, hr, if_true]
    rw [posS_at9 (k := k) (fun y hy => h1 y (by simp [hy])) (by simp at h2; omega) (by
      rcases h3 with h3 | ⟨y, hy, h3⟩
      · left; simp at h3; omega
      · right; exact ⟨y, by simpa using hy, h3⟩)]
theorem strs_take9 (l : List ByteArray) (k : Nat) : strs (l.take k) = (strs l).take k := by simp [strs]
theorem strs_drop9 (l : List ByteArray) (k : Nat) : strs (l.drop k) = (strs l).drop k := by simp [strs]
theorem Sl.strs_take9 {w : World} {B n k : Nat} {A : Option Addr} {l : List ByteArray} (h : Sl w B 1 A n (strs l)) (hk : k ≤ n) : Sl w B 1 A k (strs (l.take k)) := by
  have hl : l.length = n := by have := h.1; rw [strs_len] at this; omega
  refine ⟨by rw [strs_len, List.length_take]; omega, fun hk0 => ?_⟩
  obtain ⟨b, off, e, hb, hc⟩ := h.2 (by omega)
  refine ⟨b, off, e, hb, fun j u hu => hc j u ?_⟩
  rw [_root_.Go.Proofs.YtmdhlkkekidknaaGreatDoor.strs_take9, List.getElem?_take] at hu
  split at hu
  · exact hu
  · cases hu
theorem strs_one9 (l : List ByteArray) : ∀ u ∈ strs l, u.oneCell' = true := fun u hu => by
  obtain ⟨x, _, rfl⟩ := List.mem_map.1 hu; rfl
theorem strs_app9 (l m : List ByteArray) : strs (l ++ m) = strs l ++ strs m := by simp [strs]
theorem nms_snoc (l : List Fl) (f : Fl) : nmsP (l ++ [f]) = insS (nmsP l) (fsN f.1) := by
  unfold nmsP; rw [List.foldl_append]; rfl
theorem infoStr9 : (Tryz.prog.info? 9).map (fun i => (i.zero, i.size, i.bytes)) = some (some (.string ⟨#[]⟩), 1, 16) := by kernel_rfl
def StsE (l : List ByteArray) (w : World) (e : Ending) (w' : World) : Prop := ∃ A c, e = .returned (.slice A l.length c) ∧ Sl w' w'.heap.size 1 A l.length (strs l) ∧ l.length ≤ c ∧ c ≤ maxLen ∧ Below w.heap.size w w' ∧ (0 < l.length → ∀ q, A = some q → w.heap.size ≤ q.block)
theorem Apd.fresh9 {w : World} {base size n c : Nat} {e : TypeId} {A : Option Addr} {xs : List Value} (h : Apd w base e size A n c xs) (hn : 0 < n) : ∀ q, A = some q → base ≤ q.block := fun q hq => by
  rcases h with h | ⟨h, _⟩
  · rcases h.2 with ⟨hv, _⟩ | ⟨g, cap, cur, hv, h1, _⟩
    · simp only [Value.slice.injEq] at hv; rw [hv.1] at hq; cases hq
    · simp only [Value.slice.injEq] at hv; rw [hv.1] at hq; cases hq; exact h1
  · omega
set_option maxRecDepth 100000 in
set_option maxHeartbeats 16000000 in
theorem names9_any (A : Option Addr) (n c B : Nat) (l : List Fl) (w : World) (h0 : Sl w B 2 A n (flat flC l)) (hB : B ≤ w.heap.size) (hn : n ≤ 1000000) (hs : ∀ f ∈ l, f.1.size ≤ 1000000) :
    Calls Tryz.prog 94 #[.slice A n c] w (StsE (nmsP l) w) := by
  have HL := Lib.hid (h0.len flC_len (by omega))
  have H0 := Lib.hid h0; have HS := Lib.hid hs; clear h0 hs
  obtain ⟨i0, hi, hz0, hz1, hz2⟩ := info_parts infoStr9
  have Hi := Lib.hid hi; have Hz0 := Lib.hid hz0; have Hz1 := Lib.hid hz1; have Hz2 := Lib.hid hz2
  clear hi hz0 hz1 hz2
  go_enter Tryz.func94, Tryz.ntmps94
  go_wp2_with fail
  go_loopw [3, 4] (fun q i wr => ∃ (k : Nat) (A' : Option Addr) (m c' : Nat), k ≤ n ∧ i = .int .i64 (k : Int) ∧ q = .slice A' m c' ∧ m = (nmsP (l.take k)).length ∧ m ≤ c' ∧ c' ≤ maxLen ∧ Hid (Apd wr w.heap.size 9 1 A' m c' (strs (nmsP (l.take k)))) ∧ Hid (Below w.heap.size w wr)) (fun _ i _ => n - (intOf i).toNat)
  case atStart => exact ⟨0, _, 0, 0, Nat.zero_le _, rfl, rfl, by rw [List.take_zero]; rfl, Nat.le_refl _, Nat.zero_le _, .inr ⟨rfl, rfl, by rw [List.take_zero]; rfl⟩, (Below.refl _ w).alloc (Nat.le_refl _) _⟩
  case round =>
    obtain ⟨k, A', m, c', hk, rfl, rfl, hm, hmc, hcm, hO, hBel⟩ := hrel
    by_cases hlt : k < n
    · have hlz : (k : Int) < (n : Int) := by omega
      obtain ⟨b, off, f, rfl, hb, hf, y0, y1⟩ := (H0.out.below hBel.out hB).fl hlt
      have HTK := Lib.hid (take_snoc hf)
      have HSN := Lib.hid (nms_snoc (l.take k) f)
      rw [← HTK.out] at HSN
      obtain ⟨ns, hns⟩ : ∃ ns, nmsP (l.take k) = ns := ⟨_, rfl⟩
      have HNS := Lib.hid hns
      rw [hns] at hm hO HSN
      have HML : Hid (ns.length = m) := hm.symm
      have hm6 : m ≤ k := by rw [← HML.out, ← HNS.out]; have := nms_len (l.take k); rw [List.length_take] at this; omega
      have HO := Lib.hid hO.out; have HBE := Lib.hid hBel.out
      have HC := Lib.hid (cut9_any f.1 wr (HS.out f (List.mem_of_getElem? hf)))
      unfold CutEnd at HC
      have zr : w.heap.size ≤ wr.heap.size := HBE.out.size
      clear hf hm hO hBel hns
      obtain ⟨fp, fd⟩ := f
      simp only at y0 y1 HSN HC
      go_wp2_with (go_at_call 75; refine HC.out.mono ?_; rintro e w5 ⟨s, b0, m0, rfl, hcr, hb5⟩; refine halt_ ?_)
      refine unhalt ?_
      obtain ⟨ea, _, _⟩ := cutR_eq hcr
      rw [← ea] at HSN
      have HO5 := Lib.hid (HO.out.below hb5)
      have HB5 : Hid (Below w.heap.size w w5) := HBE.out.trans (hb5.mono zr)
      clear hb5 HC HO HBE y0 y1 hcr ea
      go_wp2_with fail
      go_loopw [8] (fun u wx => ∃ j : Nat, j ≤ m ∧ u = .int .i64 (j : Int) ∧ wx = w5 ∧ Hid (∀ y ∈ ns.take j, less y s = true)) (fun u _ => m - (intOf u).toNat)
      case atStart => exact ⟨0, Nat.zero_le _, rfl, rfl, fun y hy => by rw [List.take_zero] at hy; cases hy⟩
      case round =>
        obtain ⟨j, hjm, rfl, rfl, hall⟩ := hrel
        by_cases hjl : j < m
        · have hjz : (j : Int) < (m : Int) := by omega
          obtain ⟨ob, oo, y, rfl, hob, hy, v0⟩ := HO5.out.sl.str_at hjl
          have HY := Lib.hid hy
          clear hy
          have t1 := less_str y s
          cases hl : less y s with
          | true =>
            rw [hl] at t1
            have hnx : Hid (∀ q ∈ ns.take (j + 1), less q s = true) := by
              intro q hq
              rw [take_snoc HY.out] at hq
              rcases List.mem_append.1 hq with h | h
              · exact hall.out q h
              · rw [List.mem_singleton.1 h]; exact hl
            clear hl hall
            go_wp2_with fail
            go_roundw
            case rel => exact ⟨j + 1, by omega, by go_num, trivial, hnx.out⟩
            case measure => simp [intOf]; omega
          | false =>
            rw [hl] at t1
            have HP : Hid (posS ns s = j) := posS_at9 hall.out (by rw [HML.out]; exact hjm) (.inr ⟨y, HY.out, hl⟩)
            clear hl hall
            have t2 := str_dec y s
            by_cases he : y = s
            · have HE : Hid (nmsP (l.take (k + 1)) = ns) := by show _ = _; rw [HSN.out]; exact insS_has (by rw [HP.out, HY.out, he])
              rw [decide_eq_true he] at t2
              clear he
              go_wp2_with fail
              go_roundw
              case rel => exact ⟨k + 1, some ⟨ob, oo, none⟩, m, c', hlt, by go_num, rfl, by rw [HE.out]; exact HML.out.symm, hmc, hcm, by rw [HE.out]; exact HO5.out, HB5.out⟩
              case measure => simp [intOf]; omega
            · have HNE : Hid (ns[j]? ≠ some s) := by show _ ≠ _; rw [HY.out]; intro h; cases h; exact he rfl
              rw [decide_eq_false he] at t2
              clear he
              obtain ⟨Ak, hAr, hAk⟩ := run_slice_from (P := Tryz.prog) 96 i0 Tryz.underlying96 Hi.out Hz1.out (some ⟨ob, oo, none⟩) m c' j hjm hmc
              have HAk := Lib.hid hAk
              have tk := run_slice_to (P := Tryz.prog) 96 i0 Tryz.underlying96 Hi.out (some ⟨ob, oo, none⟩) m c' j (by omega)
              have zw5 : w.heap.size ≤ wr.heap.size := HB5.out.size
              clear hAk
              go_wp2_with (at_builtin; refine halt_app9 (.tmp 53) (.tmp 56) 96 rfl ?_)
              refine unhalt ?_
              refine wpList_append_apd (base := wr.heap.size) (size := 1) _ rfl (.tmp 53) (.tmp 56) 96 rfl 9 i0 _ 16 Tryz.underlying96 Hi.out Hz0.out Hz1.out Hz2.out rfl (by decide) _ 0 0 [] rfl (.inr ⟨rfl, rfl, rfl⟩) wr.heap.size _ j _ (strs (ns.take j)) rfl ((HO5.out.sl.strs_take9 hjm).alloc (Nat.le_refl _) _) (strs_one9 _) (by unfold maxLen; omega) (by omega) (by simp) ?_
              intro A1 c1 w6 ha1 hb1 hc1 hm1 _
              simp only [Nat.zero_add, List.nil_append] at ha1
              rw [Nat.zero_add]
              have HA1 := Lib.hid ha1
              have HB6 : Hid (Below wr.heap.size wr w6) := ((Below.refl _ wr).alloc (Nat.le_refl _) _).trans hb1
              have z6 : wr.heap.size ≤ w6.heap.size := HB6.out.size
              have HSK : Hid (∀ W, Below wr.heap.size wr W → Sl W wr.heap.size 1 Ak (m - j) (strs (ns.drop j))) := fun W hW => by rw [strs_drop9]; have := HAk.out W wr.heap.size _ (HO5.out.sl.below hW (Nat.le_refl _)); rwa [Nat.mul_one] at this
              clear ha1 hb1 hc1 hm1
              go_wp2_with fail
              go_region_law
                (first
                  | (refine step_append_apd (by rfl) (.tmp 58) (.tmp 60) 96 (by rfl) wr.heap.size 9 i0 _ 1 16 Tryz.underlying96 Hi.out Hz0.out Hz1.out Hz2.out rfl (by decide) A1 j c1 (strs (ns.take j)) (by rfl) (HA1.out.below ((Below.refl _ w6).alloc (Nat.le_refl _) _).drew) _ _ 1 1 [.string s] (by rfl) (Sl.of_bk (n := 1) (size := 1) (Bk.drew (Bk.new _ _ _)) rfl) (by simp [Value.oneCell']) (by unfold maxLen; omega) (by omega) (by show _ ≤ (World.alloc _ _).heap.size; rw [World.size_alloc]; exact Nat.le_succ_of_le z6) ?_
                     intro A2 c2 w7 ha2 hb2 _ _
                     have HA2 := Lib.hid ha2
                     have HB7 : Hid (Below wr.heap.size wr w7) := ((HB6.out.alloc z6 _).drew).trans hb2
                     clear ha2 hb2)
                  | (refine step_append_apd (by rfl) (.tmp 61) (.tmp 64) 96 (by rfl) wr.heap.size 9 i0 _ 1 16 Tryz.underlying96 Hi.out Hz0.out Hz1.out Hz2.out rfl (by decide) A2 (j + 1) c2 (strs (ns.take j) ++ [.string s]) (by rfl) HA2.out wr.heap.size Ak (m - j) (c' - j) (strs (ns.drop j)) (by rfl) (HSK.out _ HB7.out) (strs_one9 _) (by unfold maxLen; omega) (by omega) HB7.out.size ?_
                     intro A3 c3 w8 ha3 hb3 hn3 hm3
                     have HA3 := Lib.hid ha3
                     have HB8 : Hid (Below wr.heap.size wr w8) := HB7.out.trans hb3
                     have HN3 := Lib.hid hn3; have HM3 := Lib.hid hm3
                     clear ha3 hb3 hn3 hm3))
              clear tk hAr
              have HE : Hid (nmsP (l.take (k + 1)) = ns.take j ++ [s] ++ ns.drop j) := by
                show _ = _
                rw [HSN.out]
                have := insS_new (l := ns) (s := s) (by rw [HP.out]; exact HNE.out)
                rw [HP.out] at this; exact this
              have HEL : Hid (j + 1 + (m - j) = (nmsP (l.take (k + 1))).length) := by
                show _ = _
                rw [HE.out]; simp [HML.out]; omega
              have HA9 : Hid (Apd w8 w.heap.size 9 1 A3 (j + 1 + (m - j)) c3 (strs (nmsP (l.take (k + 1))))) := by
                show Apd _ _ _ _ _ _ _ _
                rw [HE.out, strs_app9, strs_app9]
                rcases HA3.out with h | ⟨h, _⟩
                · exact .inl (ownsRow_low h zw5)
                · omega
              go_wp2_with fail
              go_roundw
              case rel => exact ⟨k + 1, A3, j + 1 + (m - j), c3, hlt, by go_num, rfl, HEL.out, HN3.out, HM3.out, HA9.out, HB5.out.trans (HB8.out.mono zw5)⟩
              case measure => simp [intOf]; omega
        · have hjz : ¬ (j : Int) < (m : Int) := by omega
          have HP : Hid (posS ns s = j) := posS_at9 hall.out (by rw [HML.out]; exact hjm) (.inl (by rw [HML.out]; omega))
          have HNE : Hid (ns[j]? ≠ some s) := by show _ ≠ _; rw [List.getElem?_eq_none (by rw [HML.out]; omega)]; intro h; cases h
          clear hall
          obtain ⟨Ak, hAr, hAk⟩ := run_slice_from (P := Tryz.prog) 96 i0 Tryz.underlying96 Hi.out Hz1.out A' m c' j hjm hmc
          have HAk := Lib.hid hAk
          have tk := run_slice_to (P := Tryz.prog) 96 i0 Tryz.underlying96 Hi.out A' m c' j (by omega)
          have zw5 : w.heap.size ≤ wr.heap.size := HB5.out.size
          clear hAk
          go_wp2_with (at_builtin; refine halt_app9 (.tmp 53) (.tmp 56) 96 rfl ?_)
          refine unhalt ?_
          refine wpList_append_apd (base := wr.heap.size) (size := 1) _ rfl (.tmp 53) (.tmp 56) 96 rfl 9 i0 _ 16 Tryz.underlying96 Hi.out Hz0.out Hz1.out Hz2.out rfl (by decide) _ 0 0 [] rfl (.inr ⟨rfl, rfl, rfl⟩) wr.heap.size _ j _ (strs (ns.take j)) rfl ((HO5.out.sl.strs_take9 hjm).alloc (Nat.le_refl _) _) (strs_one9 _) (by unfold maxLen; omega) (by omega) (by simp) ?_
          intro A1 c1 w6 ha1 hb1 hc1 hm1 _
          simp only [Nat.zero_add, List.nil_append] at ha1
          rw [Nat.zero_add]
          have HA1 := Lib.hid ha1
          have HB6 : Hid (Below wr.heap.size wr w6) := ((Below.refl _ wr).alloc (Nat.le_refl _) _).trans hb1
          have z6 : wr.heap.size ≤ w6.heap.size := HB6.out.size
          have HSK : Hid (∀ W, Below wr.heap.size wr W → Sl W wr.heap.size 1 Ak (m - j) (strs (ns.drop j))) := fun W hW => by rw [strs_drop9]; have := HAk.out W wr.heap.size _ (HO5.out.sl.below hW (Nat.le_refl _)); rwa [Nat.mul_one] at this
          clear ha1 hb1 hc1 hm1
          go_wp2_with fail
          go_region_law
            (first
              | (refine step_append_apd (by rfl) (.tmp 58) (.tmp 60) 96 (by rfl) wr.heap.size 9 i0 _ 1 16 Tryz.underlying96 Hi.out Hz0.out Hz1.out Hz2.out rfl (by decide) A1 j c1 (strs (ns.take j)) (by rfl) (HA1.out.below ((Below.refl _ w6).alloc (Nat.le_refl _) _).drew) _ _ 1 1 [.string s] (by rfl) (Sl.of_bk (n := 1) (size := 1) (Bk.drew (Bk.new _ _ _)) rfl) (by simp [Value.oneCell']) (by unfold maxLen; omega) (by omega) (by show _ ≤ (World.alloc _ _).heap.size; rw [World.size_alloc]; exact Nat.le_succ_of_le z6) ?_
                 intro A2 c2 w7 ha2 hb2 _ _
                 have HA2 := Lib.hid ha2
                 have HB7 : Hid (Below wr.heap.size wr w7) := ((HB6.out.alloc z6 _).drew).trans hb2
                 clear ha2 hb2)
              | (refine step_append_apd (by rfl) (.tmp 61) (.tmp 64) 96 (by rfl) wr.heap.size 9 i0 _ 1 16 Tryz.underlying96 Hi.out Hz0.out Hz1.out Hz2.out rfl (by decide) A2 (j + 1) c2 (strs (ns.take j) ++ [.string s]) (by rfl) HA2.out wr.heap.size Ak (m - j) (c' - j) (strs (ns.drop j)) (by rfl) (HSK.out _ HB7.out) (strs_one9 _) (by unfold maxLen; omega) (by omega) HB7.out.size ?_
                 intro A3 c3 w8 ha3 hb3 hn3 hm3
                 have HA3 := Lib.hid ha3
                 have HB8 : Hid (Below wr.heap.size wr w8) := HB7.out.trans hb3
                 have HN3 := Lib.hid hn3; have HM3 := Lib.hid hm3
                 clear ha3 hb3 hn3 hm3))
          clear tk hAr
          have HE : Hid (nmsP (l.take (k + 1)) = ns.take j ++ [s] ++ ns.drop j) := by
            show _ = _
            rw [HSN.out]
            have := insS_new (l := ns) (s := s) (by rw [HP.out]; exact HNE.out)
            rw [HP.out] at this; exact this
          have HEL : Hid (j + 1 + (m - j) = (nmsP (l.take (k + 1))).length) := by
            show _ = _
            rw [HE.out]; simp [HML.out]; omega
          have HA9 : Hid (Apd w8 w.heap.size 9 1 A3 (j + 1 + (m - j)) c3 (strs (nmsP (l.take (k + 1))))) := by
            show Apd _ _ _ _ _ _ _ _
            rw [HE.out, strs_app9, strs_app9]
            rcases HA3.out with h | ⟨h, _⟩
            · exact .inl (ownsRow_low h zw5)
            · omega
          go_wp2_with fail
          go_roundw
          case rel => exact ⟨k + 1, A3, j + 1 + (m - j), c3, hlt, by go_num, rfl, HEL.out, HN3.out, HM3.out, HA9.out, HB5.out.trans (HB8.out.mono zw5)⟩
          case measure => simp [intOf]; omega
    · have hlz : ¬ (k : Int) < (n : Int) := by omega
      have HE : Hid (l.take k = l) := List.take_of_length_le (by rw [HL.out]; omega)
      have HM : Hid (m = (nmsP (l.take k)).length) := hm
      have HO := Lib.hid hO.out; have HBE := Lib.hid hBel.out
      clear hm hO hBel
      go_wp2_with fail
      go_ret
      have h1 := HO.out.sl
      have h2 := HM.out
      rw [HE.out] at h1 h2
      exact ⟨A', c', by rw [← h2]; rfl, by rw [← h2]; exact h1, by rw [← h2]; exact hmc, hcm, HBE.out, fun h0 => HO.out.fresh9 (by omega)⟩
end Go.Proofs.YtmdhlkkekidknaaGreatDoor

namespace Go.Proofs.YtmdhlkkekidknaaGreatDoor
open Go.RowKit

theorem Gb.trans_b {p : Nat → Prop} {a b c : World} (h : Gb p a b) (k : Below a.heap.size b c) : Gb p a c :=
  ⟨k.os.trans h.os, k.tape.trans h.tape, k.output.trans h.output, Nat.le_trans h.size k.size, fun i hi hp => (k.block i hi).trans (h.block i hi hp)⟩
theorem Gb.sl_ne {b : Nat} {w w' : World} {size n : Nat} {A : Option Addr} {xs : List Value} (h : Gb (fun g => g = b) w w') (hs : Sl w w.heap.size size A n xs) (hn : ∀ a, 0 < n → A = some a → a.block ≠ b) : Sl w' w'.heap.size size A n xs := by
  refine ⟨hs.1, fun h0 => ?_⟩
  obtain ⟨b', off, rfl, hb', hc⟩ := hs.2 h0
  have hne := hn _ h0 rfl
  exact ⟨b', off, rfl, Nat.lt_of_lt_of_le hb' h.size, fun j u hu => (World.cell?_of_block (h.block b' hb' hne)).trans (hc j u hu)⟩
theorem file_or_dir {l : List Fl} (hl : OkL l) {x : ByteArray} (hx : x ∈ nmsP l) : (∃ s, lookF9 l x = some s ∧ inD l x = []) ∨ (lookF9 l x = none ∧ inD l x ≠ []) := by
  cases h : lookF9 l x with
  | none => exact .inr ⟨rfl, dir_ne hx h⟩
  | some s =>
    refine .inl ⟨s, rfl, ?_⟩
    by_cases he : inD l x = []
    · exact he
    · obtain ⟨f, hf⟩ := List.exists_mem_of_ne_nil _ he
      obtain ⟨g, hg, h1, h2, _⟩ := mem_inD.1 hf
      have hm := (look9_some hl.nod).1 h
      have hb : belB x g.1 = true := (belB_iff _ _).2 ⟨bl (rsN g.1), by rw [cut_deep h1, h2]⟩
      have := hl.nob _ hm _ hg
      simp only at this
      rw [hb] at this; cases this
def RsC (k : Nat) : Prop := ∀ (l : List Fl), OkL l → (∀ f ∈ l, f.1.size ≤ k) → ∀ (p : List Itm) (A : Option Addr) (n c : Nat) (A1 : Option Addr) (m c1 B : Nat) (w : World),
    Sl w B 3 A n (flat itC p) → Sl w B 2 A1 m (flat flC l) → B ≤ w.heap.size → n ≤ c → c ≤ maxLen → PlOk p → n + wt l ≤ 800000 →
    Calls Tryz.prog 46 #[.slice A n c, .slice A1 m c1] w (StoE (k + 1) l A c p w)
set_option maxRecDepth 100000 in
set_option maxHeartbeats 32000000 in
theorem rstore_core (k : Nat) (ih : ∀ k', k = k' + 1 → RsC k') : RsC k := by
  intro l hl hlk p A n c A1 m c1 B w hp0 hl0 hB hnc hcm hpo hsz
  have HPL := Lib.hid (hp0.len itC_len (by omega))
  have HLL := Lib.hid (hl0.len flC_len (by omega))
  have HP0 := Lib.hid hp0; have HL0 := Lib.hid hl0; have HOL := Lib.hid hl; have HLK := Lib.hid hlk; have HNC := Lib.hid hnc; have HCM := Lib.hid hcm; have HPO := Lib.hid hpo; have HSZ := Lib.hid hsz
  have IH := Lib.hid ih
  have HPQ : Hid (∀ (W : World) (Ax : Option Addr) (cx : Nat) (qx : List Itm), Ply W w.heap.size A c p Ax cx qx → Below w.heap.size w W → Sl W W.heap.size 3 Ax qx.length (flat itC qx)) := fun W Ax cx qx h hb => by
    have h1 := HP0.out
    rw [← HPL.out] at h1
    exact h.sl (h1.below hb hB) (by have := hb.size; omega)
  have hm2 : m ≤ 200 := by rw [← HLL.out]; exact hl.few
  obtain ⟨i0, hi, hz0, hz1, hz2⟩ := info_parts infoEnt
  have Hi := Lib.hid hi; have Hz0 := Lib.hid hz0; have Hz1 := Lib.hid hz1; have Hz2 := Lib.hid hz2
  have hsl : ∀ f ∈ l, f.1.size ≤ 1000000 := fun f hf => by have := path_len (hl.path f hf); omega
  have HSL := Lib.hid hsl
  obtain ⟨W0, hW0⟩ : ∃ W, (w.alloc (.cells #[.int .u64 0, .int .u64 0] 30)).alloc (.cells #[.int .i64 2, .string ⟨#[]⟩, .slice none 0 0, .int .u64 0, .int .u64 0, .slice none 0 0, .string ⟨#[]⟩, .int .i64 0, .string ⟨#[]⟩] 82) = W := ⟨_, rfl⟩
  have HB0 : Hid (Below w.heap.size w W0) := by rw [← hW0]; exact ((Below.refl _ w).alloc (Nat.le_refl _) _).alloc (by simp) _
  have HD0 : Hid (Bk W0 w.heap.size 30 #[.int .u64 0, .int .u64 0]) := by rw [← hW0]; exact (Bk.new w _ _).alloc _
  have HO0 : Hid (Bk W0 (w.heap.size + 1) 82 #[.int .i64 2, .string ⟨#[]⟩, .slice none 0 0, .int .u64 0, .int .u64 0, .slice none 0 0, .string ⟨#[]⟩, .int .i64 0, .string ⟨#[]⟩]) := by
    rw [← hW0]
    have := Bk.new (w.alloc (.cells #[.int .u64 0, .int .u64 0] 30)) 82 #[.int .i64 2, .string ⟨#[]⟩, .slice none 0 0, .int .u64 0, .int .u64 0, .slice none 0 0, .string ⟨#[]⟩, .int .i64 0, .string ⟨#[]⟩]
    rw [World.size_alloc] at this; exact this
  have zW : w.heap.size + 2 = W0.heap.size := by rw [← hW0]; simp
  have HC := Lib.hid (names9_any A1 m c1 B l W0 (hl0.below HB0.out hB) (by omega) (by omega) hsl)
  unfold StsE at HC
  have HW0 := Lib.hid hW0
  clear hp0 hl0 hl hlk hnc hcm hpo hsz ih hi hz0 hz1 hz2 hsl hW0
  go_enter Tryz.func46, Tryz.ntmps46
  go_wp2_with fail
  rw [HW0.out]
  refine HC.out.mono ?_
  rintro e w7 ⟨A7, c7, rfl, hns, _, _, hb7, hfr⟩
  obtain ⟨nn, hnn⟩ : ∃ nn, (nmsP l).length = nn := ⟨_, rfl⟩
  rw [hnn] at hns hfr ⊢
  have HNL := Lib.hid hnn
  have hnn2 : nn ≤ 200 := by rw [← hnn]; have := nms_len l; have := HLL.out; omega
  have HNS := Lib.hid hns
  have HFR : Hid (∀ a, 0 < nn → A7 = some a → a.block ≠ w.heap.size + 1) := fun a h0 ha => by have := hfr h0 a ha; omega
  have HBw7 : Hid (Below w.heap.size w w7) := HB0.out.trans (hb7.mono HB0.out.size)
  have HD7 := Lib.hid (HD0.out.below hb7 (by omega))
  have HO7 := Lib.hid (HO0.out.below hb7 (by omega))
  have z7 : w.heap.size + 2 ≤ w7.heap.size := by have := hb7.size; omega
  clear hns hfr hb7 HC HW0 HB0 HD0 HO0 hnn zW
  go_wp2_with fail
  go_loopw [0, 9] (fun q0 i wr => ∃ (j : Nat) (q : List Itm) (es : List Ent) (Aq : Option Addr) (cq : Nat) (EA : Option Addr) (ec : Nat), q0 = .slice Aq q.length cq ∧ i = .int .i64 (j : Int) ∧ j ≤ nn ∧ Hid (StoAt k l p j q es) ∧ Hid (Ply wr w.heap.size A c p Aq cq q) ∧ q.length ≤ cq ∧ cq ≤ maxLen ∧ Hid (Apd wr w7.heap.size 102 4 EA j ec (flat enC es)) ∧ j ≤ ec ∧ ec ≤ maxLen ∧ Hid (Bk wr (w.heap.size + 1) 82 #[.int .i64 2, .string ⟨#[]⟩, .slice EA j ec, .int .u64 0, .int .u64 0, .slice none 0 0, .string ⟨#[]⟩, .int .i64 0, .string ⟨#[]⟩]) ∧ Hid (Gb (fun g => g = w.heap.size + 1) w7 wr)) (fun _ i _ => nn - (intOf i).toNat)
  case atStart => exact ⟨0, p, [], A, c, none, 0, by rw [HPL.out], rfl, Nat.zero_le _, StoAt.start HPO.out, .inl ⟨rfl, rfl, rfl⟩, by rw [HPL.out]; exact HNC.out, HCM.out, .inr ⟨rfl, rfl, rfl⟩, Nat.le_refl _, Nat.zero_le _, HO7.out, Gb.refl _ _⟩
  case round =>
    obtain ⟨j, q, es, Aq, cq, EA, ec, rfl, rfl, hj, hSt, hPly, hqc, hcq, hAp, hje, hec, hOB, hGb⟩ := hrel
    have zr : w7.heap.size ≤ wr.heap.size := hGb.out.size
    have HGb7 : Hid (Below (w.heap.size + 1) w7 wr) := hGb.out.below (by omega) (fun k hk h => by have : k = w.heap.size + 1 := h; omega)
    have HBw : Hid (Below w.heap.size w wr) := HBw7.out.trans (HGb7.out.mono (by omega))
    have HPLN : Hid (q.length + wt (remN l ((nmsP l).take j)) ≤ 800000) := by
      have h1 := hSt.out.len
      have h3 := HSZ.out
      rw [← HPL.out] at h3
      show _ ≤ _; omega
    by_cases hlt : j < nn
    · have hlz : (j : Int) < (nn : Int) := by omega
      obtain ⟨ob, oo, x, hAx, hob, hxx, v0⟩ := (hGb.out.sl_ne HNS.out HFR.out).str_at hlt
      have HAX := Lib.hid hAx
      have HX : Hid ((nmsP l)[j]? = some x) := hxx
      have hxm := List.mem_of_getElem? hxx
      have hxs : x.size ≤ 24 := nameB_size (nm_ok HOL.out hxx)
      have HC := Lib.hid (inside9_any A1 m c1 B l x wr (HL0.out.below HBw.out hB) (by have := HBw.out.size; omega) (by omega) HSL.out)
      unfold FlsE at HC
      have HFD := Lib.hid (file_or_dir HOL.out hxm)
      clear hxx hxm
      rw [hAx]
      clear hAx
      go_wp2_with fail
      refine HC.out.mono ?_
      rintro e w8 ⟨A3, c3, rfl, hsub, _, _, hb8⟩
      have HB8 : Hid (Below wr.heap.size wr w8) := hb8
      have HSUB := Lib.hid hsub
      have z8 : wr.heap.size ≤ w8.heap.size := hb8.size
      have v0 := (hb8.cell (p := ⟨ob, oo + j, none⟩) (by show ob < _; omega)).trans v0
      obtain ⟨ib, hib⟩ : ∃ ib, (inD l x).length = ib := ⟨_, rfl⟩
      rw [hib] at HSUB ⊢
      have HIB := Lib.hid hib
      clear hsub hb8 HC hib
      have HBW8 : Hid (Below w.heap.size w w8) := HBw.out.trans (HB8.out.mono HBw.out.size)
      rcases HFD.out with ⟨s, hs, hin⟩ | ⟨hs, hin⟩
      case inl =>
        have hib0 : ib = 0 := by rw [← HIB.out, hin]; rfl
        have hibz : ¬ (0 : Int) < (ib : Int) := by omega
        have HLF := Lib.hid hs
        have hsd : s.size ≤ 60000 := HOL.out.data _ ((look9_some HOL.out.nod).1 hs)
        obtain ⟨W9, hW9⟩ : ∃ W, w8.alloc (.cells #[.string x, .bool false, .int .u64 0, .int .u64 0] 102) = W := ⟨_, rfl⟩
        have hb9 : Below w8.heap.size w8 W9 := by rw [← hW9]; exact (Below.refl _ w8).alloc (Nat.le_refl _) _
        have HEE : Hid (Bk W9 w8.heap.size 102 #[.string x, .bool false, .int .u64 0, .int .u64 0]) := by rw [← hW9]; exact Bk.new w8 _ _
        have HB9' : Hid (Below wr.heap.size wr W9) := HB8.out.trans (hb9.mono z8)
        have HBW9 : Hid (Below w.heap.size w W9) := HBW8.out.trans (hb9.mono HBW8.out.size)
        have v0 := (hb9.cell (p := ⟨ob, oo + j, none⟩) (by show ob < _; omega)).trans v0
        have HCF := Lib.hid (find9D_any A1 m c1 B l x W9 (HL0.out.below HBW9.out hB) (by omega))
        unfold FdD at HCF
        rw [hs] at HCF
        simp only [Option.getD_some, Option.isSome_some] at HCF
        obtain ⟨t0, t1, t2, t3⟩ := HEE.out.four
        have HW9 := Lib.hid hW9
        rw [← hW9] at t0 t1 t2 t3 v0
        clear hs hin hb9 hW9
        subst hib0
        go_wp2_with fail
        rw [HW9.out]
        refine HCF.out.mono ?_
        rintro e w10 ⟨rfl, rfl⟩
        clear HCF v0
        have HBL := Lib.hid (blob9_any s W9)
        go_wp2_with fail
        refine HBL.out.mono ?_
        rintro e w10 ⟨rfl, hb10⟩
        have HE9 := Lib.hid (HEE.out.below hb10 HEE.out.lt)
        have zee := HEE.out.lt
        have HBx9 : Hid (Below wr.heap.size wr w10) := HB9'.out.trans (hb10.mono (by omega))
        have z9 := HE9.out.lt
        have hBad : True := trivial
        clear hb10 HBL t0 t1 t2 t3 HW9 HEE HB9'
        obtain ⟨⟨d1, d2⟩, hdd⟩ : ∃ d, dgO (blobO s) = d := ⟨_, rfl⟩
        have HPC := Lib.hid (put8_any Aq q.length cq w10.heap.size q (blobO s) zOs w10 (HPQ.out _ _ _ _ (hPly.out.below HBx9.out) (HBw.out.trans (HBx9.out.mono HBw.out.size))) (obM_zero _ _ _) (Nat.le_refl _) hqc hcq (by have := HPLN.out; omega) hSt.out.ok.asc (okO_blob hsd))
        unfold PuE at HPC
        rw [hdd] at HPC
        simp only [digV, ← blobC_eq] at HPC
        have HDD := Lib.hid hdd
        have HB9 : Hid (Below wr.heap.size wr w10) := HBx9.out
        clear hdd HBx9
        obtain ⟨t0, t1, t2, t3⟩ := HE9.out.four
        go_wp2_with fail
        refine HPC.out.mono ?_
        clear t0 t1 t2 t3
        rintro e w11 ⟨hq, hb11⟩
        have HE11 := Lib.hid (HE9.out.below hb11 HE9.out.lt)
        have HB11 : Hid (Below wr.heap.size wr w11) := HB9.out.trans (hb11.mono (by omega))
        have z11 : w8.heap.size < w11.heap.size := HE11.out.lt
        clear hb11 HE9 HB9
        rcases hq with ⟨q2, A2, c2, hz, rfl, hs11, hc2, hm2', hy⟩ | ⟨hz, rfl⟩
        · have HZ := Lib.hid hz; have HY := Lib.hid hy
          have HST := Lib.hid ((by have h9 := hSt.out.file HOL.out HX.out HLF.out HZ.out; rw [HDD.out] at h9; exact h9 : StoAt k l p (j + 1) q2 (es ++ [⟨x, false, (d1, d2)⟩])))
          clear hs11
          clear hz hy HPC
          obtain ⟨W12, hW12⟩ : ∃ W, (w11.setCell ⟨w8.heap.size, 2, none⟩ (.int .u64 d1)).setCell ⟨w8.heap.size, 3, none⟩ (.int .u64 d2) = W := ⟨_, rfl⟩
          have HE12 : Hid (Bk W12 w8.heap.size 102 #[.string x, .bool false, .int .u64 d1, .int .u64 d2]) := by rw [← hW12]; exact (HE11.out.set 2 (.int .u64 d1)).set 3 (.int .u64 d2)
          have HB12 : Hid (Below wr.heap.size wr W12) := by rw [← hW12]; exact (HB11.out.setCell (p := ⟨w8.heap.size, 2, none⟩) z8 _).setCell (p := ⟨w8.heap.size, 3, none⟩) z8 _
          have HY12 : Hid (Ply W12 w.heap.size A c p A2 c2 q2) := by
            rw [← hW12]
            exact ((hPly.out.trans HB11.out HY.out (by omega)).box HE11.out (by decide) 2 _).box (HE11.out.set 2 (.int .u64 d1)) (by decide) 3 _
          have z12 : w8.heap.size < W12.heap.size := HE12.out.lt
          have HO12 := Lib.hid (hOB.out.below HB12.out (by omega))
          have HA12 := Lib.hid (hAp.out.below HB12.out)
          have f2 := HE11.out.free 2; have f3 := HE11.out.free 3
          have u2 := HE11.out.cell 2; have u3 := HE11.out.cell 3
          simp at u2 u3
          obtain ⟨v0, v1, v2, v3⟩ := HE12.out.four
          obtain ⟨o0, o1, o2, o3, o4, o5, o6, o7, o8⟩ := HO12.out.nine
          clear o0 o1 o3 o4 o5 o6 o7 o8
          go_wp2_with (at_builtin; refine halt_app9 (.tmp 72) (.tmp 74) 79 rfl ?_)
          refine unhalt ?_
          refine wpList_append_apd (base := w7.heap.size) (size := 4) _ rfl (.tmp 72) (.tmp 74) 79 rfl 102 i0 _ 40 Tryz.underlying79 Hi.out Hz0.out Hz1.out Hz2.out rfl (by decide) EA j ec (flat enC es) rfl ?own_1 (W12.heap.size + 1) _ 1 _ (enC ⟨x, false, (d1, d2)⟩) rfl ?nw_1 (by simp [enC, Value.oneCell']) ?m1_1 ?m2_1 ?m3_1 ?_
          case own_1 => exact HA12.out.below ((Below.refl _ W12).alloc (Nat.le_refl _) _)
          case nw_1 =>
            have := Sl.of_bk (n := 1) (size := 4) (Bk.new W12 102 #[.string x, .bool false, .int .u64 d1, .int .u64 d2]) rfl
            rw [World.size_alloc] at this; exact this
          case m1_1 => unfold maxLen; omega
          case m2_1 => omega
          case m3_1 => simp; omega
          intro A4 c4 w13 ha4 hb4 hn4 hm4 hok4
          have HA13 : Hid (Apd w13 w7.heap.size 102 4 A4 (j + 1) c4 (flat enC (es ++ [⟨x, false, (d1, d2)⟩]))) := by
            show Apd _ _ _ _ _ _ _ _
            rw [flat_append]
            simpa [flat] using ha4
          have HB13 : Hid (Below w7.heap.size W12 w13) := ((Below.refl w7.heap.size W12).alloc (by omega) _).trans hb4
          have HO13 := Lib.hid (HO12.out.below HB13.out (by omega))
          have HY13 := Lib.hid ((HY12.out.below ((Below.refl _ W12).alloc (Nat.le_refl _) (.cells #[.string x, .bool false, .int .u64 d1, .int .u64 d2] 102))).others hok4 (by decide))
          have HGB : Hid (Gb (fun g => g = w.heap.size + 1) w7 w13) := (hGb.out.trans (Gb.of_below HB12.out)).trans_b HB13.out
          have hz13 : w7.heap.size ≤ w13.heap.size := HGB.out.size
          clear ha4 hb4 hok4 o2 v0 v1 v2 v3 u2 u3 f2 f3 hW12 HE11 HB11 HA12 HO12
          obtain ⟨o0, o1, o2, o3, o4, o5, o6, o7, o8⟩ := HO13.out.nine
          have g2 := HO13.out.free 2
          clear o0 o1 o3 o4 o5 o6 o7 o8
          go_wp2_with fail
          go_roundw
          case rel => exact ⟨j + 1, q2, _, A2, c2, A4, c4, by go_num, by go_num, hlt, HST.out, HY13.out.box HO13.out (by decide) 2 _, hc2, hm2', HA13.out.setCell (a := ⟨w.heap.size + 1, 2, none⟩) (by show w.heap.size + 1 < _; omega) _, hn4, hm4, HO13.out.set 2 (.slice A4 (j + 1) c4), HGB.out.trans (Gb.set (p := fun g => g = w.heap.size + 1) rfl _ _)⟩
          case measure => simp [intOf]; omega
        · have HN : Hid (sto (k + 1) p l = none) := hSt.out.filex HX.out HLF.out hz
          have HDx := Lib.hid (HD7.out.below (HGb7.out.trans (HB11.out.mono (by omega))) (Nat.lt_succ_self _))
          have HBx : Hid (Below w.heap.size w w11) := HBw7.out.trans ((HGb7.out.mono (by omega)).trans (HB11.out.mono (by omega)))
          clear hz HPC
          have f2 := HE11.out.free 2; have f3 := HE11.out.free 3
          have u2 := HE11.out.cell 2; have u3 := HE11.out.cell 3
          simp at u2 u3
          obtain ⟨W12, hW12⟩ : ∃ W, (w11.setCell ⟨w8.heap.size, 2, none⟩ (.int .u64 zD.1)).setCell ⟨w8.heap.size, 3, none⟩ (.int .u64 zD.2) = W := ⟨_, rfl⟩
          have HDy : Hid (Bk W12 w.heap.size 30 #[.int .u64 0, .int .u64 0]) := by rw [← hW12]; exact (HDx.out.far (p := ⟨w8.heap.size, 2, none⟩) (by show w.heap.size ≠ w8.heap.size; omega) _).far (p := ⟨w8.heap.size, 3, none⟩) (by show w.heap.size ≠ w8.heap.size; omega) _
          have HBy : Hid (Below w.heap.size w W12) := by rw [← hW12]; exact (HBx.out.setCell (p := ⟨w8.heap.size, 2, none⟩) (by show w.heap.size ≤ w8.heap.size; omega) _).setCell (p := ⟨w8.heap.size, 3, none⟩) (by show w.heap.size ≤ w8.heap.size; omega) _
          obtain ⟨d0', d1', _, _⟩ := HDy.out.two
          have e0 := HDy.out.free 0; have e1 := HDy.out.free 1
          go_wp2_with fail
          refine bodyPost_ret (res_pcp Tryz.results46 rfl rfl (HDy.out.set2 _ _) rfl) rfl ⟨.inr ⟨HN.out, rfl⟩, below_set2 HBy.out (Nat.le_refl _) _ _⟩
      case inr =>
        have hibz : (0 : Int) < (ib : Int) := by
          have := List.length_pos_iff.2 hin
          rw [HIB.out] at this; omega
        have HLF := Lib.hid hs; have HNE2 := Lib.hid hin
        obtain ⟨W9, hW9⟩ : ∃ W, w8.alloc (.cells #[.string x, .bool true, .int .u64 0, .int .u64 0] 102) = W := ⟨_, rfl⟩
        have hb9 : Below w8.heap.size w8 W9 := by rw [← hW9]; exact (Below.refl _ w8).alloc (Nat.le_refl _) _
        have HE9 : Hid (Bk W9 w8.heap.size 102 #[.string x, .bool true, .int .u64 0, .int .u64 0]) := by rw [← hW9]; exact Bk.new w8 _ _
        have HB9 : Hid (Below wr.heap.size wr W9) := HB8.out.trans (hb9.mono z8)
        have HSB := Lib.hid (sl_on9 HSUB.out hb9)
        have z9 := HE9.out.lt
        have HLN : Hid (q.length + wt (inD l x) ≤ 800000) := by
          have h1 := HPLN.out
          rw [rem_step HX.out] at h1
          have h2 := wt_sub l x
          show _ ≤ _; omega
        obtain ⟨k', rfl⟩ : ∃ k', k = k' + 1 := by
          obtain ⟨f, hf⟩ := List.exists_mem_of_ne_nil _ HNE2.out
          obtain ⟨g, hg, h1, _, _⟩ := mem_inD.1 hf
          have h3 := (path_rest (HOL.out.path g hg) h1).2
          have h4 := HLK.out g hg
          exact ⟨k - 1, by omega⟩
        have HPC := Lib.hid (IH.out k' rfl (inD l x) (HOL.out.sub x) (fun f hf => by
          obtain ⟨g, hg, h1, h2, rfl⟩ := mem_inD.1 hf
          have h3 := (path_rest (HOL.out.path g hg) h1).2
          have h4 := HLK.out g hg
          simp only
          omega) q Aq q.length cq A3 ib c3 W9.heap.size W9 (HPQ.out _ _ _ _ (hPly.out.below HB9.out) (HBw.out.trans (HB9.out.mono HBw.out.size))) HSB.out (Nat.le_refl _) hqc hcq hSt.out.ok HLN.out)
        unfold StoE at HPC
        simp only [digV] at HPC
        obtain ⟨t0, t1, t2, t3⟩ := HE9.out.four
        clear hs hin hb9
        go_wp2_with fail
        refine HPC.out.mono ?_
        clear t0 t1 t2 t3 v0 hW9
        rintro e w11 ⟨hq, hb11⟩
        have HE11 := Lib.hid (HE9.out.below hb11 HE9.out.lt)
        have HB11 : Hid (Below wr.heap.size wr w11) := HB9.out.trans (hb11.mono (by omega))
        have z11 : w8.heap.size < w11.heap.size := HE11.out.lt
        clear hb11 HE9 HB9
        rcases hq with ⟨q2, ⟨d1, d2⟩, A2, c2, hz, hrr, rfl, hs11, hc2, hm2', hy⟩ | ⟨hz, rfl⟩
        · have HZ := Lib.hid hz; have HY := Lib.hid hy
          have HRR := Lib.hid hrr
          have HST := Lib.hid (hSt.out.dir HOL.out HX.out HLF.out HZ.out HRR.out HNE2.out)
          clear hs11 hrr
          clear hz hy HPC
          obtain ⟨W12, hW12⟩ : ∃ W, (w11.setCell ⟨w8.heap.size, 2, none⟩ (.int .u64 d1)).setCell ⟨w8.heap.size, 3, none⟩ (.int .u64 d2) = W := ⟨_, rfl⟩
          have HE12 : Hid (Bk W12 w8.heap.size 102 #[.string x, .bool true, .int .u64 d1, .int .u64 d2]) := by rw [← hW12]; exact (HE11.out.set 2 (.int .u64 d1)).set 3 (.int .u64 d2)
          have HB12 : Hid (Below wr.heap.size wr W12) := by rw [← hW12]; exact (HB11.out.setCell (p := ⟨w8.heap.size, 2, none⟩) z8 _).setCell (p := ⟨w8.heap.size, 3, none⟩) z8 _
          have HY12 : Hid (Ply W12 w.heap.size A c p A2 c2 q2) := by
            rw [← hW12]
            exact ((hPly.out.trans HB11.out HY.out (by omega)).box HE11.out (by decide) 2 _).box (HE11.out.set 2 (.int .u64 d1)) (by decide) 3 _
          have z12 : w8.heap.size < W12.heap.size := HE12.out.lt
          have HO12 := Lib.hid (hOB.out.below HB12.out (by omega))
          have HA12 := Lib.hid (hAp.out.below HB12.out)
          have f2 := HE11.out.free 2; have f3 := HE11.out.free 3
          have u2 := HE11.out.cell 2; have u3 := HE11.out.cell 3
          simp at u2 u3
          obtain ⟨v0, v1, v2, v3⟩ := HE12.out.four
          obtain ⟨o0, o1, o2, o3, o4, o5, o6, o7, o8⟩ := HO12.out.nine
          clear o0 o1 o3 o4 o5 o6 o7 o8
          go_wp2_with (at_builtin; refine halt_app9 (.tmp 72) (.tmp 74) 79 rfl ?_)
          refine unhalt ?_
          refine wpList_append_apd (base := w7.heap.size) (size := 4) _ rfl (.tmp 72) (.tmp 74) 79 rfl 102 i0 _ 40 Tryz.underlying79 Hi.out Hz0.out Hz1.out Hz2.out rfl (by decide) EA j ec (flat enC es) rfl ?own_2 (W12.heap.size + 1) _ 1 _ (enC ⟨x, true, (d1, d2)⟩) rfl ?nw_2 (by simp [enC, Value.oneCell']) ?m1_2 ?m2_2 ?m3_2 ?_
          case own_2 => exact HA12.out.below ((Below.refl _ W12).alloc (Nat.le_refl _) _)
          case nw_2 =>
            have := Sl.of_bk (n := 1) (size := 4) (Bk.new W12 102 #[.string x, .bool true, .int .u64 d1, .int .u64 d2]) rfl
            rw [World.size_alloc] at this; exact this
          case m1_2 => unfold maxLen; omega
          case m2_2 => omega
          case m3_2 => simp; omega
          intro A4 c4 w13 ha4 hb4 hn4 hm4 hok4
          have HA13 : Hid (Apd w13 w7.heap.size 102 4 A4 (j + 1) c4 (flat enC (es ++ [⟨x, true, (d1, d2)⟩]))) := by
            show Apd _ _ _ _ _ _ _ _
            rw [flat_append]
            simpa [flat] using ha4
          have HB13 : Hid (Below w7.heap.size W12 w13) := ((Below.refl w7.heap.size W12).alloc (by omega) _).trans hb4
          have HO13 := Lib.hid (HO12.out.below HB13.out (by omega))
          have HY13 := Lib.hid ((HY12.out.below ((Below.refl _ W12).alloc (Nat.le_refl _) (.cells #[.string x, .bool true, .int .u64 d1, .int .u64 d2] 102))).others hok4 (by decide))
          have HGB : Hid (Gb (fun g => g = w.heap.size + 1) w7 w13) := (hGb.out.trans (Gb.of_below HB12.out)).trans_b HB13.out
          have hz13 : w7.heap.size ≤ w13.heap.size := HGB.out.size
          clear ha4 hb4 hok4 o2 v0 v1 v2 v3 u2 u3 f2 f3 hW12 HE11 HB11 HA12 HO12
          obtain ⟨o0, o1, o2, o3, o4, o5, o6, o7, o8⟩ := HO13.out.nine
          have g2 := HO13.out.free 2
          clear o0 o1 o3 o4 o5 o6 o7 o8
          go_wp2_with fail
          go_roundw
          case rel => exact ⟨j + 1, q2, _, A2, c2, A4, c4, by go_num, by go_num, hlt, HST.out, HY13.out.box HO13.out (by decide) 2 _, hc2, hm2', HA13.out.setCell (a := ⟨w.heap.size + 1, 2, none⟩) (by show w.heap.size + 1 < _; omega) _, hn4, hm4, HO13.out.set 2 (.slice A4 (j + 1) c4), HGB.out.trans (Gb.set (p := fun g => g = w.heap.size + 1) rfl _ _)⟩
          case measure => simp [intOf]; omega
        · have HN : Hid (sto (k' + 1 + 1) p l = none) := hSt.out.dirx HX.out HLF.out hz
          have HDx := Lib.hid (HD7.out.below (HGb7.out.trans (HB11.out.mono (by omega))) (Nat.lt_succ_self _))
          have HBx : Hid (Below w.heap.size w w11) := HBw7.out.trans ((HGb7.out.mono (by omega)).trans (HB11.out.mono (by omega)))
          clear hz HPC
          have f2 := HE11.out.free 2; have f3 := HE11.out.free 3
          have u2 := HE11.out.cell 2; have u3 := HE11.out.cell 3
          simp at u2 u3
          obtain ⟨W12, hW12⟩ : ∃ W, (w11.setCell ⟨w8.heap.size, 2, none⟩ (.int .u64 zD.1)).setCell ⟨w8.heap.size, 3, none⟩ (.int .u64 zD.2) = W := ⟨_, rfl⟩
          have HDy : Hid (Bk W12 w.heap.size 30 #[.int .u64 0, .int .u64 0]) := by rw [← hW12]; exact (HDx.out.far (p := ⟨w8.heap.size, 2, none⟩) (by show w.heap.size ≠ w8.heap.size; omega) _).far (p := ⟨w8.heap.size, 3, none⟩) (by show w.heap.size ≠ w8.heap.size; omega) _
          have HBy : Hid (Below w.heap.size w W12) := by rw [← hW12]; exact (HBx.out.setCell (p := ⟨w8.heap.size, 2, none⟩) (by show w.heap.size ≤ w8.heap.size; omega) _).setCell (p := ⟨w8.heap.size, 3, none⟩) (by show w.heap.size ≤ w8.heap.size; omega) _
          obtain ⟨d0', d1', _, _⟩ := HDy.out.two
          have e0 := HDy.out.free 0; have e1 := HDy.out.free 1
          go_wp2_with fail
          refine bodyPost_ret (res_pcp Tryz.results46 rfl rfl (HDy.out.set2 _ _) rfl) rfl ⟨.inr ⟨HN.out, rfl⟩, below_set2 HBy.out (Nat.le_refl _) _ _⟩
    · have hlz : ¬ (j : Int) < (nn : Int) := by omega
      have HJN : Hid (j = nn) := by show _ = _; omega
      have HDz := Lib.hid (HD7.out.below HGb7.out (Nat.lt_succ_self _))
      have HES := Lib.hid (hSt.out.es HOL.out)
      have HPC := Lib.hid (put8_any Aq q.length cq wr.heap.size q (treeO es) ⟨EA, j, ec, none, 0, 0⟩ wr (HPQ.out _ _ _ _ hPly.out HBw.out) ⟨hAp.out.sl, Sl.nil _ _ _ _, hje, hec, Nat.le_refl _, Nat.zero_le _⟩ (Nat.le_refl _) hqc hcq (by have := HPLN.out; omega) hSt.out.ok.asc (okO_treeO HES.out))
      unfold PuE at HPC
      obtain ⟨⟨d1, d2⟩, hdd⟩ : ∃ d, dgO (treeO es) = d := ⟨_, rfl⟩
      have HDD := Lib.hid hdd
      rw [hdd] at HPC
      simp only [digV, obV, obC, treeO] at HPC
      clear hdd
      obtain ⟨o0, o1, o2, o3, o4, o5, o6, o7, o8⟩ := hOB.out.nine
      go_wp2_with fail
      refine HPC.out.mono ?_
      rintro e w11 ⟨hq, hb11⟩
      have HB11 : Hid (Below w.heap.size w w11) := HBw.out.trans (hb11.mono HBw.out.size)
      have HD11 := Lib.hid (HDz.out.below hb11 (by omega))
      have HBW := Lib.hid hb11
      have z11 : w.heap.size < w11.heap.size := HD11.out.lt
      clear hb11 HPC o0 o1 o2 o3 o4 o5 o6 o7 o8
      rcases hq with ⟨q2, A2, c2, hz, rfl, hs11, hc2, hm2', hy⟩ | ⟨hz, rfl⟩
      · have HN : Hid (sto (k + 1) p l = some (q2, (d1, d2))) := by
          have := hSt.out.done (by rw [HNL.out, HJN.out]; exact Nat.le_refl _) hz
          rw [HDD.out] at this; exact this
        have HRR : Hid (StoR p q2 (d1, d2) l) := by
          have := hSt.out.res HOL.out hz
          rw [HDD.out] at this; exact this
        obtain ⟨W12, hW12⟩ : ∃ W, w11.alloc (.cells #[.int .u64 d1, .int .u64 d2] 30) = W := ⟨_, rfl⟩
        have hb12 : Below w11.heap.size w11 W12 := by rw [← hW12]; exact (Below.refl _ w11).alloc (Nat.le_refl _) _
        have HX12 : Hid (Bk W12 w11.heap.size 30 #[.int .u64 d1, .int .u64 d2]) := by rw [← hW12]; exact Bk.new w11 _ _
        have HD12 := Lib.hid (HD11.out.below hb12 HD11.out.lt)
        have HB12 : Hid (Below w.heap.size w W12) := HB11.out.trans (hb12.mono HB11.out.size)
        have HY : Hid (Ply W12 w.heap.size A c p A2 c2 q2) := (hPly.out.trans HBW.out hy (by have := HBw.out.size; omega)).below hb12
        have HY2 : Hid (Ply ((W12.setCell ⟨w.heap.size, 0, none⟩ (.int .u64 d1)).setCell ⟨w.heap.size, 1, none⟩ (.int .u64 d2)).drew w.heap.size A c p A2 c2 q2) := (HY.out.box HD12.out (by decide) 0 _).box (HD12.out.set 0 (.int .u64 d1)) (by decide) 1 _
        obtain ⟨x0, x1, _, _⟩ := HX12.out.two
        obtain ⟨t0, t1, _, _⟩ := HD12.out.two
        have e0 := HD12.out.free 0; have e1 := HD12.out.free 1
        have zx : w.heap.size < W12.heap.size := HD12.out.lt
        clear hz hy hs11 hb12
        go_wp2_with fail
        go_region
        go_wp2_with fail
        refine bodyPost_ret (res_pcp Tryz.results46 rfl rfl ((HD12.out.set2 (.int .u64 d1) (.int .u64 d2)).drew) rfl) rfl ⟨.inl ⟨q2, (d1, d2), A2, c2, HN.out, HRR.out, rfl, ?_, hc2, hm2', HY2.out⟩, (below_set2 HB12.out (Nat.le_refl _) _ _).drew⟩
        exact HPQ.out _ _ _ _ HY2.out (below_set2 HB12.out (Nat.le_refl _) _ _).drew
      · have HN : Hid (sto (k + 1) p l = none) := hSt.out.donex (by rw [HNL.out, HJN.out]; exact Nat.le_refl _) hz
        obtain ⟨t0, t1, _, _⟩ := HD11.out.two
        have e0 := HD11.out.free 0; have e1 := HD11.out.free 1
        have hne : ¬ w.heap.size = w11.heap.size := by omega
        have HBs : Hid (Below w.heap.size w ((w11.setCell ⟨w.heap.size, 0, none⟩ (.int .u64 0)).setCell ⟨w.heap.size, 1, none⟩ (.int .u64 0))) := below_set2 HB11.out (Nat.le_refl _) _ _
        simp only [zD]
        clear hz
        go_wp2_with fail
        refine bodyPost_ret (res_pcp Tryz.results46 rfl rfl ((HD11.out.set2 _ _).alloc _) rfl) rfl ⟨.inr ⟨HN.out, rfl⟩, HBs.out.alloc HBs.out.size _⟩
theorem rstore_all : ∀ k, RsC k := by
  intro k
  induction k with
  | zero => exact rstore_core 0 (fun k' h => by omega)
  | succ k ih => exact rstore_core (k + 1) (fun k' h => by obtain rfl : k' = k := (by omega); exact ih)
end Go.Proofs.YtmdhlkkekidknaaGreatDoor

namespace Go.Proofs.YtmdhlkkekidknaaGreatDoor
open Go.RowKit

theorem Sl.dg2 {w : World} {b n : Nat} {A : Option Addr} {q : List Itm} {x y : Value} (h : Sl w w.heap.size 3 A n (flat itC q)) (hk : Bk w b 30 #[x, y]) (x' y' : Value) :
    Sl ((w.setCell ⟨b, 0, none⟩ x').setCell ⟨b, 1, none⟩ y') ((w.setCell ⟨b, 0, none⟩ x').setCell ⟨b, 1, none⟩ y').heap.size 3 A n (flat itC q) := by
  have := h.ne (b := b) (h.dgbox hk) (fun k hk => (Below.heap_setCell (w.setCell ⟨b, 0, none⟩ x') ⟨b, 1, none⟩ y' k hk).trans (Below.heap_setCell w ⟨b, 0, none⟩ x' k hk))
  simpa using this
set_option maxRecDepth 100000 in
set_option maxHeartbeats 4000000 in
theorem rstore9_any (A : Option Addr) (n c B : Nat) (p : List Itm) (A1 : Option Addr) (m c1 : Nat) (l : List Fl) (w : World) (h0 : Sl w B 3 A n (flat itC p)) (h1 : Sl w B 2 A1 m (flat flC l)) (hB : B ≤ w.heap.size) (hnc : n ≤ c) (hcm : c ≤ maxLen) (hn : n ≤ 700000) (hm : m ≤ 1000000) (hp : PlOk p) (hsz : ∀ f ∈ l, f.1.size ≤ 1000000 ∧ f.2.size ≤ 60000) :
    Calls Tryz.prog 16 #[.slice A n c, .slice A1 m c1] w (StrE p l w) := by
  have HP := Lib.hid hp; have H0 := Lib.hid h0; have H1 := Lib.hid h1; have HSZ := Lib.hid hsz; have HNC := Lib.hid hnc; have HCM := Lib.hid hcm
  obtain ⟨W, hW⟩ : ∃ W, w.alloc (.cells #[.int .u64 0, .int .u64 0] 30) = W := ⟨_, rfl⟩
  have HB0 : Hid (Below w.heap.size w W) := by rw [← hW]; exact (Below.refl _ w).alloc (Nat.le_refl _) _
  have HD : Hid (Bk W w.heap.size 30 #[.int .u64 0, .int .u64 0]) := by rw [← hW]; exact Bk.new w _ _
  have HC := Lib.hid (check9_any A1 m c1 B l W (h1.below HB0.out hB) (Nat.le_trans hB HB0.out.size) hm hsz)
  have HW := Lib.hid hW
  have zW : w.heap.size < W.heap.size := HD.out.lt
  clear hp h0 h1 hsz hnc hcm hW
  go_enter Tryz.func16, Tryz.ntmps16
  go_wp2_with fail
  rw [HW.out]
  refine HC.out.mono ?_
  rintro e w2 ⟨z, rfl, hz, hb⟩
  have HZ := Lib.hid hz
  have HB2 : Hid (Below w.heap.size w w2) := HB0.out.trans (hb.mono HB0.out.size)
  have HD2 := Lib.hid (HD.out.below hb zW)
  obtain ⟨y0, y1, _, _⟩ := HD2.out.two
  have g0 := HD2.out.free 0; have g1 := HD2.out.free 1
  have z2 := hb.size
  clear hz hb HC
  by_cases h0 : z = 0
  · have t1 : (z != 0) = false := by rw [h0]; rfl
    have HZ0 : Hid (TckR l 0) := by show TckR l 0; rw [← h0]; exact HZ.out
    obtain ⟨hok, _⟩ := ck_ok HZ0.out (fun f hf => (HSZ.out f hf).2)
    have hwt := wt_ok hok
    have HS := Lib.hid (rstore_all 100 l hok (fun f hf => path_len (hok.path f hf)) p A n c A1 m c1 B w2 (H0.out.below HB2.out hB) (H1.out.below HB2.out hB) (Nat.le_trans hB HB2.out.size) HNC.out HCM.out HP.out (by omega))
    unfold StoE at HS
    simp only [digV] at HS
    clear h0 hok hwt
    go_wp2_with fail
    refine HS.out.mono ?_
    rintro e w3 ⟨hq, hb⟩
    have HB3 : Hid (Below w.heap.size w w3) := HB2.out.trans (hb.mono HB2.out.size)
    have HD3 := Lib.hid (HD2.out.below hb (by omega))
    obtain ⟨y0, y1, _, _⟩ := HD3.out.two
    have g0 := HD3.out.free 0; have g1 := HD3.out.free 1
    clear hb HS
    rcases hq with ⟨q, ⟨d1, d2⟩, A2, c2, hs, hr, rfl, hsl, hc2, hm2, _⟩ | ⟨hs, rfl⟩
    · have HN := Lib.hid hs; have HR := Lib.hid hr; have HSL := Lib.hid hsl
      have HNE := Lib.hid (HSL.out.dgbox HD3.out)
      clear hs hr hsl
      go_wp2_with fail
      refine bodyPost_ret (res_pcp Tryz.results16 rfl rfl (HD3.out.set2 _ _) rfl) rfl ⟨.inr ⟨HZ0.out, .inl ⟨q, (d1, d2), A2, c2, HN.out, HR.out, rfl, ?_, hc2, hm2⟩⟩, below_set2 HB3.out (Nat.le_refl _) _ _⟩
      have := HSL.out.ne (b := w.heap.size) HNE.out (fun k hk => (Below.heap_setCell (w3.setCell ⟨w.heap.size, 0, none⟩ (.int .u64 d1)) ⟨w.heap.size, 1, none⟩ (.int .u64 d2) k hk).trans (Below.heap_setCell w3 ⟨w.heap.size, 0, none⟩ (.int .u64 d1) k hk))
      simpa using this
    · have HN := Lib.hid hs
      clear hs
      go_wp2_with fail
      refine bodyPost_ret (res_pcp Tryz.results16 rfl rfl (HD3.out.set2 _ _) rfl) rfl ⟨.inr ⟨HZ0.out, .inr ⟨HN.out, rfl⟩⟩, below_set2 HB3.out (Nat.le_refl _) _ _⟩
  · have t1 : (z != 0) = true := by rw [bne_iff_ne]; exact h0
    have H0' := Lib.hid h0
    clear h0
    go_wp2_with fail
    refine bodyPost_ret (res_pcp Tryz.results16 rfl rfl (HD2.out.set2 _ _) rfl) rfl ⟨.inl ⟨z, HZ.out, H0'.out, rfl⟩, below_set2 HB2.out (Nat.le_refl _) _ _⟩
set_option maxRecDepth 100000 in
set_option maxHeartbeats 16000000 in
theorem rset9_any (A : Option Addr) (np cp B : Nat) (p : List Itm) (d : Dig) (path data : ByteArray) (w : World) (h0 : Sl w B 3 A np (flat itC p)) (hB : B ≤ w.heap.size) (hnc : np ≤ cp) (hcm : cp ≤ maxLen) (hn : np ≤ 700000) (hp : PlOk p) (hs : ∀ i ∈ p, i.2.size ≤ 60000) (hps : path.size ≤ 1000000) (hds : data.size ≤ 60000) :
    Calls Tryz.prog 26 #[.slice A np cp, digV d, .string path, .string data] w (EdtE p d (setF path data) w) := by
  have HP := Lib.hid hp; have H0 := Lib.hid h0; have HS := Lib.hid hs; have HNC := Lib.hid hnc; have HCM := Lib.hid hcm
  obtain ⟨d1, d2⟩ := d
  obtain ⟨W, hW⟩ : ∃ W, (w.alloc (.cells #[.int .u64 d1, .int .u64 d2] 30)).alloc (.cells #[.int .u64 0, .int .u64 0] 30) = W := ⟨_, rfl⟩
  have HB0 : Hid (Below w.heap.size w W) := by rw [← hW]; exact ((Below.refl _ w).alloc (Nat.le_refl _) _).alloc (by simp) _
  have HD : Hid (Bk W (w.heap.size + 1) 30 #[.int .u64 0, .int .u64 0]) := by
    rw [← hW]
    have := Bk.new (w.alloc (.cells #[.int .u64 d1, .int .u64 d2] 30)) 30 #[.int .u64 0, .int .u64 0]
    rw [World.size_alloc] at this; exact this
  have HK : Hid (Bk W w.heap.size 30 #[.int .u64 d1, .int .u64 d2]) := by rw [← hW]; exact (Bk.new w _ _).alloc _
  have zW : w.heap.size + 2 = W.heap.size := by rw [← hW]; simp
  have HC := Lib.hid (rload9_any A np cp B p (d1, d2) W (h0.below HB0.out hB) (Nat.le_trans hB HB0.out.size) (by omega) hp)
  unfold RldE at HC
  have HW := Lib.hid hW
  obtain ⟨x0, x1, _, _⟩ := HK.out.two
  rw [← hW] at x0 x1
  simp only [digV] at HC ⊢
  clear hp h0 hs hW hnc hcm
  go_enter Tryz.func26, Tryz.ntmps26
  go_wp2_with fail
  rw [HW.out]
  refine HC.out.mono ?_
  rintro e w2 ⟨hq, hb⟩
  have HB2 : Hid (Below w.heap.size w w2) := HB0.out.trans (hb.mono HB0.out.size)
  have HD2 := Lib.hid (HD.out.below hb (by omega))
  obtain ⟨y0, y1, _, _⟩ := HD2.out.two
  have g0 := HD2.out.free 0; have g1 := HD2.out.free 1
  have z2 : w.heap.size + 2 ≤ w2.heap.size := by have := hb.size; omega
  clear hb HC x0 x1 HW
  rcases hq with ⟨fs, A1, c1, hld, rfl, hsl⟩ | ⟨err, hle, hz, rfl⟩
  case inr =>
    have t1 : (err != 0) = true := by rw [bne_iff_ne]; exact hz
    have HL := Lib.hid hle; have HZ := Lib.hid hz
    clear hle hz
    go_wp2_with fail
    exact bodyPost_ret (res_pcp Tryz.results26 rfl rfl (HD2.out.set2 _ _) rfl) rfl ⟨.inl ⟨err, HL.out, HZ.out, rfl⟩, below_set2 HB2.out (by omega) _ _⟩
  case inl =>
    have HLD := Lib.hid hld; have HFS := Lib.hid hsl
    obtain ⟨hok, _⟩ := load_std HP.out HS.out hld
    have HOK := Lib.hid hok
    have hfl := hld.len
    have HPT := Lib.hid (path9_any path w2 (by omega))
    clear hld hsl hok
    go_wp2_with fail
    refine HPT.out.mono ?_
    rintro e w3 ⟨rfl, hb⟩
    have HB3 : Hid (Below w.heap.size w w3) := HB2.out.trans (hb.mono HB2.out.size)
    have HD3 := Lib.hid (HD2.out.below hb HD2.out.lt)
    have HF3 := Lib.hid (sl_on9 HFS.out hb)
    obtain ⟨y0, y1, _, _⟩ := HD3.out.two
    have g0 := HD3.out.free 0; have g1 := HD3.out.free 1
    have z3 : w.heap.size + 2 ≤ w3.heap.size := by have := hb.size; omega
    clear hb HPT
    cases hpb : pathB path with
    | false =>
      have HV : Hid ((setF path data) fs = (6, [])) := by show _ = _; unfold setF; rw [if_neg (by rw [hpb]; simp)]
      clear hpb
      go_wp2_with fail
      exact bodyPost_ret (res_pcp Tryz.results26 rfl rfl (HD3.out.set2 _ _) rfl) rfl ⟨.inr ⟨fs, HLD.out, .inl ⟨by rw [HV.out]; decide, by rw [HV.out]; rfl⟩⟩, below_set2 HB3.out (by omega) _ _⟩
    | true =>
      have HPB := Lib.hid hpb
      clear hpb
      have HC := Lib.hid (with9_any A1 fs.length c1 w3.heap.size fs (path, data) w3 HF3.out (Nat.le_refl _) (by omega) HLD.out.asc)
      unfold FlsE fileV at HC
      obtain ⟨l, hl⟩ : ∃ l, withF fs (path, data) = l := ⟨_, rfl⟩
      have HV : Hid (setF path data fs = (0, l)) := by show _ = _; unfold setF; rw [if_pos HPB.out, hl]
      have hll : l.length ≤ 201 := by rw [← hl]; have := withF_len fs (path, data); omega
      have HSZ : Hid (∀ f ∈ l, f.1.size ≤ 1000000 ∧ f.2.size ≤ 60000) := fun f hf => by
        rw [← hl] at hf
        rcases mem_withF.1 hf with ⟨h1, _⟩ | rfl
        · exact ⟨by have := path_len (HOK.out.path f h1); omega, HOK.out.data f h1⟩
        · exact ⟨hps, hds⟩
      rw [hl] at HC
      clear hl
      go_wp2_with fail
      refine HC.out.mono ?_
      rintro e w4 ⟨A4, c4, rfl, hsl, _, _, hb⟩
      have HBL : Hid (Below w.heap.size w w4) := HB3.out.trans (hb.mono HB3.out.size)
      have HDL := Lib.hid (HD3.out.below hb HD3.out.lt)
      have HSL := Lib.hid hsl
      clear hsl hb HC y0 y1 g0 g1
      have HST := Lib.hid (rstore9_any A np cp w4.heap.size p A4 l.length c4 l w4 ((H0.out.below HBL.out hB).more (Nat.le_trans hB HBL.out.size)) HSL.out (Nat.le_refl _) HNC.out HCM.out hn (by omega) HP.out HSZ.out)
      unfold StrE at HST
      go_wp2_with fail
      refine HST.out.mono ?_
      rintro e w5 ⟨hq, hb⟩
      have HB5 : Hid (Below w.heap.size w w5) := HBL.out.trans (hb.mono HBL.out.size)
      have HD5 := Lib.hid (HDL.out.below hb HDL.out.lt)
      obtain ⟨y0, y1, _, _⟩ := HD5.out.two
      have g0 := HD5.out.free 0; have g1 := HD5.out.free 1
      clear hb HST
      rcases hq with ⟨z, hz, hn0, rfl⟩ | ⟨hz, ⟨q, ⟨e1, e2⟩, A5, c5, hs5, hr5, rfl, hsl, hc5, hm5⟩ | ⟨hs5, rfl⟩⟩
      · have HZ := Lib.hid hz; have HN := Lib.hid hn0
        clear hz hn0
        simp only [digV, zD]
        go_wp2_with fail
        exact bodyPost_ret (res_pcp Tryz.results26 rfl rfl (HD5.out.set2 _ _) rfl) rfl ⟨.inr ⟨fs, HLD.out, .inr ⟨by rw [HV.out], .inl ⟨z, by rw [HV.out]; exact HZ.out, HN.out, rfl⟩⟩⟩, below_set2 HB5.out (by omega) _ _⟩
      · have HZ := Lib.hid hz; have H5 := Lib.hid hs5; have HR := Lib.hid hr5; have HS5 := Lib.hid hsl; have HC5 := Lib.hid hc5; have HM5 := Lib.hid hm5
        clear hz hs5 hr5 hsl hc5 hm5
        simp only [digV]
        go_wp2_with fail
        exact bodyPost_ret (res_pcp Tryz.results26 rfl rfl (HD5.out.set2 _ _) rfl) rfl ⟨.inr ⟨fs, HLD.out, .inr ⟨by rw [HV.out], .inr ⟨by rw [HV.out]; exact HZ.out, .inl ⟨q, (e1, e2), A5, c5, by rw [HV.out]; exact H5.out, by rw [HV.out]; exact HR.out, rfl, HS5.out.dg2 HD5.out _ _, HC5.out, HM5.out⟩⟩⟩⟩, below_set2 HB5.out (by omega) _ _⟩
      · have HZ := Lib.hid hz; have H5 := Lib.hid hs5
        clear hz hs5
        simp only [digV, zD]
        go_wp2_with fail
        exact bodyPost_ret (res_pcp Tryz.results26 rfl rfl (HD5.out.set2 _ _) rfl) rfl ⟨.inr ⟨fs, HLD.out, .inr ⟨by rw [HV.out], .inr ⟨by rw [HV.out]; exact HZ.out, .inr ⟨by rw [HV.out]; exact H5.out, rfl⟩⟩⟩⟩, below_set2 HB5.out (by omega) _ _⟩
set_option maxRecDepth 100000 in
set_option maxHeartbeats 16000000 in
theorem rrem9_any (A : Option Addr) (np cp B : Nat) (p : List Itm) (d : Dig) (path : ByteArray) (w : World) (h0 : Sl w B 3 A np (flat itC p)) (hB : B ≤ w.heap.size) (hnc : np ≤ cp) (hcm : cp ≤ maxLen) (hn : np ≤ 700000) (hp : PlOk p) (hs : ∀ i ∈ p, i.2.size ≤ 60000) (hps : path.size ≤ 1000000) :
    Calls Tryz.prog 28 #[.slice A np cp, digV d, .string path] w (EdtE p d (remF path) w) := by
  have HP := Lib.hid hp; have H0 := Lib.hid h0; have HS := Lib.hid hs; have HNC := Lib.hid hnc; have HCM := Lib.hid hcm
  obtain ⟨d1, d2⟩ := d
  obtain ⟨W, hW⟩ : ∃ W, (w.alloc (.cells #[.int .u64 d1, .int .u64 d2] 30)).alloc (.cells #[.int .u64 0, .int .u64 0] 30) = W := ⟨_, rfl⟩
  have HB0 : Hid (Below w.heap.size w W) := by rw [← hW]; exact ((Below.refl _ w).alloc (Nat.le_refl _) _).alloc (by simp) _
  have HD : Hid (Bk W (w.heap.size + 1) 30 #[.int .u64 0, .int .u64 0]) := by
    rw [← hW]
    have := Bk.new (w.alloc (.cells #[.int .u64 d1, .int .u64 d2] 30)) 30 #[.int .u64 0, .int .u64 0]
    rw [World.size_alloc] at this; exact this
  have HK : Hid (Bk W w.heap.size 30 #[.int .u64 d1, .int .u64 d2]) := by rw [← hW]; exact (Bk.new w _ _).alloc _
  have zW : w.heap.size + 2 = W.heap.size := by rw [← hW]; simp
  have HC := Lib.hid (rload9_any A np cp B p (d1, d2) W (h0.below HB0.out hB) (Nat.le_trans hB HB0.out.size) (by omega) hp)
  unfold RldE at HC
  have HW := Lib.hid hW
  obtain ⟨x0, x1, _, _⟩ := HK.out.two
  rw [← hW] at x0 x1
  simp only [digV] at HC ⊢
  clear hp h0 hs hW hnc hcm
  go_enter Tryz.func28, Tryz.ntmps28
  go_wp2_with fail
  rw [HW.out]
  refine HC.out.mono ?_
  rintro e w2 ⟨hq, hb⟩
  have HB2 : Hid (Below w.heap.size w w2) := HB0.out.trans (hb.mono HB0.out.size)
  have HD2 := Lib.hid (HD.out.below hb (by omega))
  obtain ⟨y0, y1, _, _⟩ := HD2.out.two
  have g0 := HD2.out.free 0; have g1 := HD2.out.free 1
  have z2 : w.heap.size + 2 ≤ w2.heap.size := by have := hb.size; omega
  clear hb HC x0 x1 HW
  rcases hq with ⟨fs, A1, c1, hld, rfl, hsl⟩ | ⟨err, hle, hz, rfl⟩
  case inr =>
    have t1 : (err != 0) = true := by rw [bne_iff_ne]; exact hz
    have HL := Lib.hid hle; have HZ := Lib.hid hz
    clear hle hz
    go_wp2_with fail
    exact bodyPost_ret (res_pcp Tryz.results28 rfl rfl (HD2.out.set2 _ _) rfl) rfl ⟨.inl ⟨err, HL.out, HZ.out, rfl⟩, below_set2 HB2.out (by omega) _ _⟩
  case inl =>
    have HLD := Lib.hid hld; have HFS := Lib.hid hsl
    obtain ⟨hok, _⟩ := load_std HP.out HS.out hld
    have HOK := Lib.hid hok
    have hfl := hld.len
    have HPT := Lib.hid (path9_any path w2 (by omega))
    clear hld hsl hok
    go_wp2_with fail
    refine HPT.out.mono ?_
    rintro e w3 ⟨rfl, hb⟩
    have HB3 : Hid (Below w.heap.size w w3) := HB2.out.trans (hb.mono HB2.out.size)
    have HD3 := Lib.hid (HD2.out.below hb HD2.out.lt)
    have HF3 := Lib.hid (sl_on9 HFS.out hb)
    obtain ⟨y0, y1, _, _⟩ := HD3.out.two
    have g0 := HD3.out.free 0; have g1 := HD3.out.free 1
    have z3 : w.heap.size + 2 ≤ w3.heap.size := by have := hb.size; omega
    clear hb HPT
    cases hpb : pathB path with
    | false =>
      have HV : Hid ((remF path) fs = (6, [])) := by show _ = _; unfold remF; rw [if_neg (by rw [hpb]; simp)]
      clear hpb
      go_wp2_with fail
      exact bodyPost_ret (res_pcp Tryz.results28 rfl rfl (HD3.out.set2 _ _) rfl) rfl ⟨.inr ⟨fs, HLD.out, .inl ⟨by rw [HV.out]; decide, by rw [HV.out]; rfl⟩⟩, below_set2 HB3.out (by omega) _ _⟩
    | true =>
      have HPB := Lib.hid hpb
      clear hpb
      have HC := Lib.hid (find9D_any A1 fs.length c1 w3.heap.size fs path w3 HF3.out (by omega))
      unfold FdD at HC
      cases hlk : lookF9 fs path with
      | none =>
        have HV : Hid (remF path fs = (8, [])) := by show _ = _; unfold remF; rw [if_pos HPB.out, hlk]
        rw [hlk] at HC
        simp only [Option.getD_none, Option.isSome_none] at HC
        clear hlk
        go_wp2_with fail
        refine HC.out.mono ?_
        rintro e w4 ⟨rfl, rfl⟩
        go_wp2_with fail
        exact bodyPost_ret (res_pcp Tryz.results28 rfl rfl (HD3.out.set2 _ _) rfl) rfl ⟨.inr ⟨fs, HLD.out, .inl ⟨by rw [HV.out]; decide, by rw [HV.out]; rfl⟩⟩, below_set2 HB3.out (by omega) _ _⟩
      | some dt =>
        have HLK := Lib.hid hlk
        rw [hlk] at HC
        simp only [Option.getD_some, Option.isSome_some] at HC
        clear hlk
        go_wp2_with fail
        refine HC.out.mono ?_
        rintro e w4 ⟨rfl, rfl⟩
        clear HC
        have HC := Lib.hid (without9_any A1 fs.length c1 w3.heap.size fs path w3 HF3.out (Nat.le_refl _) (by omega))
        unfold FlsE at HC
        obtain ⟨l, hl⟩ : ∃ l, wotF fs path = l := ⟨_, rfl⟩
        have HV : Hid (remF path fs = (0, l)) := by show _ = _; unfold remF; rw [if_pos HPB.out, HLK.out, hl]
        have hll : l.length ≤ 201 := by rw [← hl]; have := wotF_len fs path; omega
        have HSZ : Hid (∀ f ∈ l, f.1.size ≤ 1000000 ∧ f.2.size ≤ 60000) := fun f hf => by
          rw [← hl] at hf
          have h1 := (mem_wotF.1 hf).1
          exact ⟨by have := path_len (HOK.out.path f h1); omega, HOK.out.data f h1⟩
        rw [hl] at HC
        clear hl
        go_wp2_with fail
        refine HC.out.mono ?_
        rintro e w4 ⟨A4, c4, rfl, hsl, _, _, hb⟩
        have HBL : Hid (Below w.heap.size w w4) := HB3.out.trans (hb.mono HB3.out.size)
        have HDL := Lib.hid (HD3.out.below hb HD3.out.lt)
        have HSL := Lib.hid hsl
        clear hsl hb HC y0 y1 g0 g1
        have HST := Lib.hid (rstore9_any A np cp w4.heap.size p A4 l.length c4 l w4 ((H0.out.below HBL.out hB).more (Nat.le_trans hB HBL.out.size)) HSL.out (Nat.le_refl _) HNC.out HCM.out hn (by omega) HP.out HSZ.out)
        unfold StrE at HST
        go_wp2_with fail
        refine HST.out.mono ?_
        rintro e w5 ⟨hq, hb⟩
        have HB5 : Hid (Below w.heap.size w w5) := HBL.out.trans (hb.mono HBL.out.size)
        have HD5 := Lib.hid (HDL.out.below hb HDL.out.lt)
        obtain ⟨y0, y1, _, _⟩ := HD5.out.two
        have g0 := HD5.out.free 0; have g1 := HD5.out.free 1
        clear hb HST
        rcases hq with ⟨z, hz, hn0, rfl⟩ | ⟨hz, ⟨q, ⟨e1, e2⟩, A5, c5, hs5, hr5, rfl, hsl, hc5, hm5⟩ | ⟨hs5, rfl⟩⟩
        · have HZ := Lib.hid hz; have HN := Lib.hid hn0
          clear hz hn0
          simp only [digV, zD]
          go_wp2_with fail
          exact bodyPost_ret (res_pcp Tryz.results28 rfl rfl (HD5.out.set2 _ _) rfl) rfl ⟨.inr ⟨fs, HLD.out, .inr ⟨by rw [HV.out], .inl ⟨z, by rw [HV.out]; exact HZ.out, HN.out, rfl⟩⟩⟩, below_set2 HB5.out (by omega) _ _⟩
        · have HZ := Lib.hid hz; have H5 := Lib.hid hs5; have HR := Lib.hid hr5; have HS5 := Lib.hid hsl; have HC5 := Lib.hid hc5; have HM5 := Lib.hid hm5
          clear hz hs5 hr5 hsl hc5 hm5
          simp only [digV]
          go_wp2_with fail
          exact bodyPost_ret (res_pcp Tryz.results28 rfl rfl (HD5.out.set2 _ _) rfl) rfl ⟨.inr ⟨fs, HLD.out, .inr ⟨by rw [HV.out], .inr ⟨by rw [HV.out]; exact HZ.out, .inl ⟨q, (e1, e2), A5, c5, by rw [HV.out]; exact H5.out, by rw [HV.out]; exact HR.out, rfl, HS5.out.dg2 HD5.out _ _, HC5.out, HM5.out⟩⟩⟩⟩, below_set2 HB5.out (by omega) _ _⟩
        · have HZ := Lib.hid hz; have H5 := Lib.hid hs5
          clear hz hs5
          simp only [digV, zD]
          go_wp2_with fail
          exact bodyPost_ret (res_pcp Tryz.results28 rfl rfl (HD5.out.set2 _ _) rfl) rfl ⟨.inr ⟨fs, HLD.out, .inr ⟨by rw [HV.out], .inr ⟨by rw [HV.out]; exact HZ.out, .inr ⟨by rw [HV.out]; exact H5.out, rfl⟩⟩⟩⟩, below_set2 HB5.out (by omega) _ _⟩
end Go.Proofs.YtmdhlkkekidknaaGreatDoor

namespace Go.Proofs.YtmdhlkkekidknaaGreatDoor
open Go.RowKit

def StrV (p : List Itm) (l : List Fl) (q : List Itm) (d : Dig) (err : Int) : Prop :=
  (TckR l err ∧ err ≠ 0 ∧ q = [] ∧ d = zD) ∨ (TckR l 0 ∧ ((sto 101 p l = some (q, d) ∧ err = 0) ∨ (sto 101 p l = none ∧ err = 16 ∧ q = [] ∧ d = zD)))
theorem StrV.uniq {p : List Itm} {l : List Fl} {q q' : List Itm} {d d' : Dig} {x y : Int} (h : StrV p l q d x) (g : StrV p l q' d' y) : q = q' ∧ d = d' ∧ x = y := by
  rcases h with ⟨h1, h2, h3, h4⟩ | ⟨h1, h2⟩ <;> rcases g with ⟨g1, g2, g3, g4⟩ | ⟨g1, g2⟩
  · exact ⟨by rw [h3, g3], by rw [h4, g4], TckR.same h1 g1⟩
  · exact absurd (TckR.same h1 g1) h2
  · exact absurd (TckR.same g1 h1) g2
  · rcases h2 with ⟨h2, h3⟩ | ⟨h2, h3, h4, h5⟩ <;> rcases g2 with ⟨g2, g3⟩ | ⟨g2, g3, g4, g5⟩
    · rw [h2] at g2
      injection g2 with g2
      injection g2 with g4 g5
      exact ⟨g4, g5, by rw [h3, g3]⟩
    · rw [h2] at g2; cases g2
    · rw [h2] at g2; cases g2
    · exact ⟨by rw [h4, g4], by rw [h5, g5], by rw [h3, g3]⟩
theorem str_oneV {p : List Itm} {l : List Fl} {w w' : World} {e : Ending} (h : StrE p l w e w') :
    (∃ q d err A c, StrV p l q d err ∧ e = .returned (.tuple #[.slice A q.length c, digV d, .int .i64 err]) ∧ Sl w' w'.heap.size 3 A q.length (flat itC q) ∧ q.length ≤ maxLen) ∧ Below w.heap.size w w' := by
  obtain ⟨h, hb⟩ := h
  refine ⟨?_, hb⟩
  rcases h with ⟨z, h1, h2, rfl⟩ | ⟨h1, ⟨q, d, A, c, h2, _, rfl, h3, h4, h5⟩ | ⟨h2, rfl⟩⟩
  · exact ⟨[], zD, z, none, 0, .inl ⟨h1, h2, rfl, rfl⟩, rfl, Sl.nil _ _ _ _, Nat.zero_le _⟩
  · exact ⟨q, d, 0, A, c, .inr ⟨h1, .inl ⟨h2, rfl⟩⟩, rfl, h3, Nat.le_trans h4 h5⟩
  · exact ⟨[], zD, 16, none, 0, .inr ⟨h1, .inr ⟨h2, rfl, rfl, rfl⟩⟩, rfl, Sl.nil _ _ _ _, Nat.zero_le _⟩
theorem lodE_uniq {p : List Itm} {d : Dig} {x y : Int} (h : LodE p d x) (g : LodE p d y) : x = y := by
  rcases h with ⟨a, b⟩ | ⟨a, b, c⟩ <;> rcases g with ⟨a', b'⟩ | ⟨a', b', c'⟩
  · rw [b, b']
  · omega
  · omega
  · rw [c, c']
def EdtV (p : List Itm) (d : Dig) (f : List Fl → Int × List Fl) (q : List Itm) (x : Dig) (err : Int) : Prop :=
  (LodE p d err ∧ q = [] ∧ x = zD) ∨ (∃ fs, LdSeq p d fs ∧ (((f fs).1 ≠ 0 ∧ err = (f fs).1 ∧ q = [] ∧ x = zD) ∨ ((f fs).1 = 0 ∧ StrV p (f fs).2 q x err)))
theorem EdtV.uniq {p : List Itm} {d : Dig} {f : List Fl → Int × List Fl} {q q' : List Itm} {x x' : Dig} {y y' : Int} (h : EdtV p d f q x y) (g : EdtV p d f q' x' y') : q = q' ∧ x = x' ∧ y = y' := by
  rcases h with ⟨h1, h2, h3⟩ | ⟨fs, h1, h2⟩ <;> rcases g with ⟨g1, g2, g3⟩ | ⟨gs, g1, g2⟩
  · exact ⟨by rw [h2, g2], by rw [h3, g3], lodE_uniq h1 g1⟩
  · exact (ld_not g1 h1).elim
  · exact (ld_not h1 g1).elim
  · have := ld_uniq h1 g1
    subst this
    rcases h2 with ⟨h2, h3, h4, h5⟩ | ⟨h2, h3⟩ <;> rcases g2 with ⟨g2, g3, g4, g5⟩ | ⟨g2, g3⟩
    · exact ⟨by rw [h4, g4], by rw [h5, g5], by rw [h3, g3]⟩
    · exact absurd g2 h2
    · exact absurd h2 g2
    · exact h3.uniq g3
theorem edt_oneV {p : List Itm} {d : Dig} {f : List Fl → Int × List Fl} {w w' : World} {e : Ending} (h : EdtE p d f w e w') :
    (∃ q x err A c, EdtV p d f q x err ∧ e = .returned (.tuple #[.slice A q.length c, digV x, .int .i64 err]) ∧ Sl w' w'.heap.size 3 A q.length (flat itC q) ∧ q.length ≤ maxLen) ∧ Below w.heap.size w w' := by
  obtain ⟨h, hb⟩ := h
  refine ⟨?_, hb⟩
  rcases h with ⟨err, h1, _, rfl⟩ | ⟨fs, h1, ⟨h2, rfl⟩ | ⟨h2, ⟨z, h3, h4, rfl⟩ | ⟨h3, ⟨q, x, A, c, h4, _, rfl, h5, h6, h7⟩ | ⟨h4, rfl⟩⟩⟩⟩
  · exact ⟨[], zD, err, none, 0, .inl ⟨h1, rfl, rfl⟩, rfl, Sl.nil _ _ _ _, Nat.zero_le _⟩
  · exact ⟨[], zD, _, none, 0, .inr ⟨fs, h1, .inl ⟨h2, rfl, rfl, rfl⟩⟩, rfl, Sl.nil _ _ _ _, Nat.zero_le _⟩
  · exact ⟨[], zD, z, none, 0, .inr ⟨fs, h1, .inr ⟨h2, .inl ⟨h3, h4, rfl, rfl⟩⟩⟩, rfl, Sl.nil _ _ _ _, Nat.zero_le _⟩
  · exact ⟨q, x, 0, A, c, .inr ⟨fs, h1, .inr ⟨h2, .inr ⟨h3, .inl ⟨h4, rfl⟩⟩⟩⟩, rfl, h5, Nat.le_trans h6 h7⟩
  · exact ⟨[], zD, 16, none, 0, .inr ⟨fs, h1, .inr ⟨h2, .inr ⟨h3, .inr ⟨h4, rfl, rfl, rfl⟩⟩⟩⟩, rfl, Sl.nil _ _ _ _, Nat.zero_le _⟩
set_option maxRecDepth 100000 in
set_option maxHeartbeats 1000000 in
theorem samep_any (A0 A1 : Option Addr) (n0 c0 n1 c1 B : Nat) (rs qs : List Itm) (w : World) (h0 : Sl w B 3 A0 n0 (flat itC rs)) (h1 : Sl w B 3 A1 n1 (flat itC qs)) (m0 : n0 ≤ maxLen) :
    Calls Tryz.prog 17 #[.slice A0 n0 c0, .slice A1 n1 c1] w fun e w' => e = .returned (.bool (decide (rs = qs))) ∧ Below w.heap.size w w' := by
  have HC := Lib.hid (same8_any A0 A1 n0 c0 n1 c1 B rs qs w h0 h1 m0)
  obtain ⟨r, hr⟩ : ∃ r, decide (rs = qs) = r := ⟨_, rfl⟩
  rw [hr] at HC ⊢
  clear h0 h1 m0 hr
  go_enter Tryz.func17, Tryz.ntmps17
  go_wp2_with fail
  refine HC.out.mono ?_
  rintro e w1 ⟨rfl, k, hk⟩
  have HB : Hid (Below w.heap.size w w1) := by rw [hk]; exact below_drewN (Below.refl _ _) k
  clear hk HC
  go_wp2_with fail
  go_ret
  exact ⟨rfl, HB.out⟩
end Go.Proofs.YtmdhlkkekidknaaGreatDoor
