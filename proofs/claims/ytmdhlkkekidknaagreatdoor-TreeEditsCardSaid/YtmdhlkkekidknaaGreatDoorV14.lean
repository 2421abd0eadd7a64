/-
  Lemmas: The reference's find with its data, Changes and Diff. tree.Store. slices.Delete of one file. tree.Set, tree.Remove. tree.Set and tree.Remove: the walks. tree.Remove. The chapter's example: what is stored; in plain Lean. slices.IndexFunc over a tree's entries, with tree.Get's closure. strings.Split at "/". tree.Get.
-/
import Derived.Deep.QuietTactic
import Derived.BigQuiet
import Derived.Lib.SliceRun
import Derived.Test.YtmdhlkkekidknaaGreatDoorV13
import Derived.Test.YtmdhlkkekidknaaGreatDoorV12
import Derived.Test.YtmdhlkkekidknaaGreatDoorV5
import Derived.Test.YtmdhlkkekidknaaGreatDoorV10
import Derived.Test.YtmdhlkkekidknaaGreatDoorV11
import Derived.Test.YtmdhlkkekidknaaGreatDoorV1
import Derived.Test.YtmdhlkkekidknaaGreatDoorV7

namespace Go.Proofs.YtmdhlkkekidknaaGreatDoor
open Go.RowKit

theorem look9_at {l : List Fl} {s : ByteArray} {k : Nat} {f : Fl} (hN : ∀ y ∈ l.take k, y.1 ≠ s) (hf : l[k]? = some f) (he : f.1 = s) : lookF9 l s = some f.2 := by
  unfold lookF9
  rw [← List.take_append_drop k l, List.find?_append]
  have h0 : (l.take k).find? (fun f => decide (f.1 = s)) = none := by
    rw [List.find?_eq_none]; intro x hx; simpa using hN x hx
  rw [h0, drop_at hf]
  simp [he]
def FdD (l : List Fl) (s : ByteArray) (w : World) (e : Ending) (w' : World) : Prop := e = .returned (.tuple #[.string ((lookF9 l s).getD eB), .bool (lookF9 l s).isSome]) ∧ w = w'
set_option maxRecDepth 100000 in
set_option maxHeartbeats 1000000 in
theorem find9D_any (A : Option Addr) (n c B : Nat) (fs : List Fl) (p : ByteArray) (w : World) (h0 : Sl w B 2 A n (flat flC fs)) (hn : n ≤ 1000000) :
    Calls Tryz.prog 66 #[.slice A n c, .string p] w (FdD fs p w) := by
  have HL := Lib.hid (h0.len flC_len (by omega))
  have H0 := Lib.hid h0; clear h0
  go_enter Tryz.func66, Tryz.ntmps66
  go_wp2
  go_loopw [6] (fun i wr => ∃ k : Nat, k ≤ n ∧ i = .int .i64 k ∧ Hid (∀ f ∈ fs.take k, f.1 ≠ p) ∧ wr = w) (fun i _ => n - (intOf i).toNat)
  case atStart => exact ⟨0, Nat.zero_le _, rfl, fun f hf => by simp at hf, rfl⟩
  case round =>
    obtain ⟨k, hk, rfl, hN, rfl⟩ := hrel
    by_cases hlt : k < n
    · obtain ⟨b, off, f, rfl, hb, hf, y0, y1⟩ := H0.out.fl hlt
      have hkz : (k : Int) < (n : Int) := by omega
      have HF := Lib.hid hf; clear hf
      have hse := str_dec f.1 p
      by_cases e : f.1 = p
      · have HM : Hid (lookF9 fs p = some f.2) := look9_at hN.out HF.out e
        rw [decide_eq_true e] at hse
        clear e
        go_wp2
        go_ret2
        exact ⟨by rw [HM.out]; rfl, rfl⟩
      · rw [decide_eq_false e] at hse
        have HN : Hid (∀ f ∈ fs.take (k + 1), f.1 ≠ p) := fun y hy => by
          rw [take_snoc HF.out] at hy
          rcases List.mem_append.1 hy with hy | hy
          · exact hN.out y hy
          · rw [List.mem_singleton.1 hy]; exact e
        clear e
        go_wp2
        go_roundw
        case rel => exact ⟨k + 1, hlt, by go_num, HN.out, trivial⟩
        case measure => simp [intOf]; omega
    · have hkz : ¬ (k : Int) < (n : Int) := by omega
      have HM : Hid (lookF9 fs p = none) := look9_none.2 (fun f hf => hN.out f (by rw [List.take_of_length_le (by rw [HL.out]; omega)]; exact hf))
      go_wp2
      go_ret2
      exact ⟨by rw [HM.out]; rfl, rfl⟩
structure AllR (l m : List Fl) : Prop where
  asc : AscF m
  mem : ∀ s, (∃ f ∈ m, f.1 = s) ↔ ∃ f ∈ l, f.1 = s
  len : m.length ≤ l.length
theorem AllR.nil : AllR [] [] := ⟨List.Pairwise.nil, fun _ => Iff.rfl, Nat.le_refl _⟩
theorem AllR.add {l m : List Fl} (h : AllR l m) (f : Fl) : AllR (l ++ [f]) (withF m f) where
  asc := asc_withF h.asc f
  mem s := by
    constructor
    · rintro ⟨g, hg, rfl⟩
      rcases mem_withF.1 hg with ⟨h1, _⟩ | rfl
      · obtain ⟨x, hx, e⟩ := (h.mem g.1).1 ⟨g, h1, rfl⟩
        exact ⟨x, by simp [hx], e⟩
      · exact ⟨g, by simp, rfl⟩
    · rintro ⟨g, hg, rfl⟩
      rcases List.mem_append.1 hg with hg | hg
      · obtain ⟨x, hx, e⟩ := (h.mem g.1).2 ⟨g, hg, rfl⟩
        by_cases he : x.1 = f.1
        · exact ⟨f, mem_withF.2 (.inr rfl), by rw [← he, e]⟩
        · exact ⟨x, mem_withF.2 (.inl ⟨hx, he⟩), e⟩
      · rw [List.mem_singleton.1 hg]; exact ⟨f, mem_withF.2 (.inr rfl), rfl⟩
  len := by have := withF_len m f; have := h.len; simp; omega
theorem look_isSome {l : List Fl} {s : ByteArray} : (lookF9 l s).isSome = true ↔ ∃ f ∈ l, f.1 = s := by
  constructor
  · intro h
    cases hl : lookF9 l s with
    | none => rw [hl] at h; cases h
    | some d =>
      by_cases hx : ∃ f ∈ l, f.1 = s
      · exact hx
      · have := look9_none.2 (fun f hf e => hx ⟨f, hf, e⟩)
        rw [hl] at this; cases this
  · rintro ⟨f, hf, e⟩
    cases hl : lookF9 l s with
    | some d => rfl
    | none => exact absurd e (look9_none.1 hl f hf)
theorem AllR.difR {a b m : List Fl} (h : AllR (a ++ b) m) : DifR a b (chL a b (m.map Prod.fst)) := by
  refine difR_of ?_ (fun s => ?_)
  · show List.Pairwise _ _
    rw [List.pairwise_map]; exact h.asc
  · rw [look_isSome, look_isSome]
    constructor
    · intro hs
      obtain ⟨f, hf, e⟩ := List.mem_map.1 hs
      obtain ⟨g, hg, e'⟩ := (h.mem s).1 ⟨f, hf, e⟩
      rcases List.mem_append.1 hg with hg | hg
      · exact .inl ⟨g, hg, e'⟩
      · exact .inr ⟨g, hg, e'⟩
    · intro hs
      have : ∃ f ∈ a ++ b, f.1 = s := by
        rcases hs with ⟨g, hg, e⟩ | ⟨g, hg, e⟩
        · exact ⟨g, List.mem_append.2 (.inl hg), e⟩
        · exact ⟨g, List.mem_append.2 (.inr hg), e⟩
      obtain ⟨f, hf, e⟩ := (h.mem s).2 this
      exact List.mem_map.2 ⟨f, hf, e⟩
def ChgE (a b : List Fl) (w : World) (e : Ending) (w' : World) : Prop :=
  (∃ c A cap, DifR a b c ∧ e = .returned (.slice A c.length cap) ∧ Sl w' w'.heap.size 5 A c.length (flat fcC c) ∧ c.length ≤ cap ∧ cap ≤ maxLen ∧ c.length ≤ 400) ∧ Below w.heap.size w w'
set_option maxRecDepth 100000 in
set_option maxHeartbeats 16000000 in
theorem changes9_any (A0 : Option Addr) (n0 c0 : Nat) (A1 : Option Addr) (n1 c1 B : Nat) (a b : List Fl) (w : World) (h0 : Sl w B 2 A0 n0 (flat flC a)) (h1 : Sl w B 2 A1 n1 (flat flC b)) (hB : B ≤ w.heap.size) (hn0 : n0 ≤ 200) (hn1 : n1 ≤ 200) :
    Calls Tryz.prog 79 #[.slice A0 n0 c0, .slice A1 n1 c1] w (ChgE a b w) := by
  have HL0 := Lib.hid (h0.len flC_len (by omega)); have HL1 := Lib.hid (h1.len flC_len (by omega))
  have H0 := Lib.hid h0; have H1 := Lib.hid h1
  clear h0 h1
  obtain ⟨i0, hi, hz0, hz1, hz2⟩ := info_parts infoFC
  have Hi := Lib.hid hi; have Hz0 := Lib.hid hz0; have Hz1 := Lib.hid hz1; have Hz2 := Lib.hid hz2
  clear hi hz0 hz1 hz2
  have hl0 : a.length ≤ 200 := by rw [HL0.out]; exact hn0
  have hl1 : b.length ≤ 200 := by rw [HL1.out]; exact hn1
  go_enter Tryz.func79, Tryz.ntmps79
  go_wp2_with fail
  go_loopw [5, 6] (fun q i wr => ∃ (k : Nat) (m : List Fl) (A' : Option Addr) (c' : Nat), k ≤ n0 ∧ i = .int .i64 (k : Int) ∧ q = .slice A' m.length c' ∧ Hid (AllR ([] ++ a.take k) m) ∧ Hid (Sl wr wr.heap.size 2 A' m.length (flat flC m)) ∧ Hid (Below w.heap.size w wr)) (fun _ i _ => n0 - (intOf i).toNat)
  case atStart => exact ⟨0, [], _, 0, Nat.zero_le _, rfl, rfl, by rw [List.take_zero]; exact AllR.nil, Sl.nil _ _ _ _, (Below.refl _ w).alloc (Nat.le_refl _) _⟩
  case round =>
    obtain ⟨k, m, A', c', hk, rfl, rfl, hAl, hSl, hBel⟩ := hrel
    have HAL := Lib.hid hAl.out; have HSL := Lib.hid hSl.out; have HBE := Lib.hid hBel.out
    have zr : w.heap.size ≤ wr.heap.size := HBE.out.size
    clear hAl hSl hBel
    by_cases hlt : k < n0
    · have hlz : (k : Int) < (n0 : Int) := by omega
      obtain ⟨b', off, f, rfl, hb, hf, y0, y1⟩ := (H0.out.below HBE.out hB).fl hlt
      have HTK := Lib.hid (take_snoc hf)
      have hml : m.length ≤ 400 := by
        have h1 := HAL.out.len
        simp only [List.length_take, List.nil_append] at h1
        omega
      have HC := Lib.hid (with9_any A' m.length c' wr.heap.size m f wr HSL.out (Nat.le_refl _) (by omega) HAL.out.asc)
      obtain ⟨fp, fd⟩ := f
      obtain ⟨mx, hmx⟩ : ∃ mx, withF m (fp, fd) = mx := ⟨_, rfl⟩
      have HN : Hid (AllR ([] ++ a.take (k + 1)) mx) := by
        show AllR _ _
        rw [HTK.out, ← hmx]
        have := HAL.out.add (fp, fd)
        simpa using this
      unfold FlsE fileV at HC
      rw [hmx] at HC
      obtain ⟨ml, hmll⟩ : ∃ ml, m.length = ml := ⟨_, rfl⟩
      rw [hmll] at HC hml ⊢
      clear hf hmx hmll
      simp only at y0 y1 HC
      go_wp2_with fail
      refine HC.out.mono ?_
      rintro e w5 ⟨A2, c2, rfl, hsl, _, _, hb5⟩
      have HS5 := Lib.hid hsl
      have HB5 : Hid (Below w.heap.size w w5) := HBE.out.trans (hb5.mono zr)
      clear hsl hb5 HC y0 y1
      go_wp2_with fail
      go_roundw
      case rel => exact ⟨k + 1, mx, A2, c2, hlt, by go_num, rfl, HN.out, HS5.out, HB5.out⟩
      case measure => simp [intOf]; omega
    · have hlz : ¬ (k : Int) < (n0 : Int) := by omega
      have HAL : Hid (AllR a m) := by
        have := HAL.out
        simp only [List.nil_append] at this
        rw [List.take_of_length_le (by rw [HL0.out]; omega)] at this; exact this
      obtain ⟨wq, hwq⟩ : ∃ wq, wq = wr := ⟨_, rfl⟩
      subst hwq
      go_wp2_with fail
      go_loopw [5, 7] (fun q i wr => ∃ (k : Nat) (m : List Fl) (A' : Option Addr) (c' : Nat), k ≤ n1 ∧ i = .int .i64 (k : Int) ∧ q = .slice A' m.length c' ∧ Hid (AllR (a ++ b.take k) m) ∧ Hid (Sl wr wr.heap.size 2 A' m.length (flat flC m)) ∧ Hid (Below w.heap.size w wr)) (fun _ i _ => n1 - (intOf i).toNat)
      case atStart => exact ⟨0, m, A', c', Nat.zero_le _, rfl, rfl, by rw [List.take_zero, List.append_nil]; exact HAL.out, HSL.out, HBE.out⟩
      case round =>
        obtain ⟨k, m, A', c', hk, rfl, rfl, hAl, hSl, hBel⟩ := hrel
        have HAL := Lib.hid hAl.out; have HSL := Lib.hid hSl.out; have HBE := Lib.hid hBel.out
        have zr : w.heap.size ≤ wr.heap.size := HBE.out.size
        clear hAl hSl hBel
        by_cases hlt : k < n1
        · have hlz : (k : Int) < (n1 : Int) := by omega
          obtain ⟨b', off, f, rfl, hb, hf, y0, y1⟩ := (H1.out.below HBE.out hB).fl hlt
          have HTK := Lib.hid (take_snoc hf)
          have hml : m.length ≤ 400 := by
            have h1 := HAL.out.len
            simp only [List.length_append, List.length_take] at h1
            omega
          have HC := Lib.hid (with9_any A' m.length c' wr.heap.size m f wr HSL.out (Nat.le_refl _) (by omega) HAL.out.asc)
          obtain ⟨fp, fd⟩ := f
          obtain ⟨mx, hmx⟩ : ∃ mx, withF m (fp, fd) = mx := ⟨_, rfl⟩
          have HN : Hid (AllR (a ++ b.take (k + 1)) mx) := by
            show AllR _ _
            rw [HTK.out, ← hmx]
            have := HAL.out.add (fp, fd)
            simpa using this
          unfold FlsE fileV at HC
          rw [hmx] at HC
          obtain ⟨ml, hmll⟩ : ∃ ml, m.length = ml := ⟨_, rfl⟩
          rw [hmll] at HC hml ⊢
          clear hf hmx hmll
          simp only at y0 y1 HC
          go_wp2_with fail
          refine HC.out.mono ?_
          rintro e w5 ⟨A2, c2, rfl, hsl, _, _, hb5⟩
          have HS5 := Lib.hid hsl
          have HB5 : Hid (Below w.heap.size w w5) := HBE.out.trans (hb5.mono zr)
          clear hsl hb5 HC y0 y1
          go_wp2_with fail
          go_roundw
          case rel => exact ⟨k + 1, mx, A2, c2, hlt, by go_num, rfl, HN.out, HS5.out, HB5.out⟩
          case measure => simp [intOf]; omega
        · have hlz : ¬ (k : Int) < (n1 : Int) := by omega
          have HALL : Hid (AllR (a ++ b) m) := by
            have := HAL.out
            rw [List.take_of_length_le (by rw [HL1.out]; omega)] at this; exact this
          clear HAL
          have HDR := Lib.hid HALL.out.difR
          obtain ⟨ks, hks⟩ : ∃ ks, m.map Prod.fst = ks := ⟨_, rfl⟩
          have HKS := Lib.hid hks
          rw [hks] at HDR
          have hkl : ks.length = m.length := by rw [← hks, List.length_map]
          have HKL := Lib.hid hkl
          have hml : m.length ≤ 400 := by
            have h1 := HALL.out.len
            rw [List.length_append] at h1
            omega
          obtain ⟨ml, hmll⟩ : ∃ ml, m.length = ml := ⟨_, rfl⟩
          rw [hmll] at hml HSL HKL ⊢
          have HML := Lib.hid hmll
          obtain ⟨wo, hwo⟩ : ∃ wo, wo = wr := ⟨_, rfl⟩
          subst hwo
          have HBO : Hid (Below w.heap.size w wo) := HBE.out
          clear hks hkl hmll HBE zr
          go_wp2_with fail
          go_loopw [8, 9] (fun q i wr => ∃ (j n c : Nat) (A : Option Addr), j ≤ ml ∧ i = .int .i64 (j : Int) ∧ q = .slice A n c ∧ n = (chL a b (ks.take j)).length ∧ n ≤ c ∧ c ≤ maxLen ∧ Hid (Apd wr wo.heap.size 112 5 A n c (flat fcC (chL a b (ks.take j)))) ∧ Hid (Below wo.heap.size wo wr)) (fun _ i _ => ml - (intOf i).toNat)
          case atStart => exact ⟨0, 0, 0, _, Nat.zero_le _, rfl, rfl, by rw [List.take_zero]; rfl, Nat.le_refl _, Nat.zero_le _, .inr ⟨rfl, rfl, by rw [List.take_zero]; rfl⟩, (Below.refl _ wo).alloc (Nat.le_refl _) _⟩
          case round =>
            obtain ⟨j, n, c, A, hj, rfl, rfl, hn, hnc, hcm, hO, hBel⟩ := hrel
            have HO := Lib.hid hO.out; have HBE := Lib.hid hBel.out
            have zr : wo.heap.size ≤ wr.heap.size := HBE.out.size
            by_cases hlt : j < ml
            · have hlz : (j : Int) < (ml : Int) := by omega
              obtain ⟨bb, off, f, rfl, hbB, hf, y0, y1⟩ := (HSL.out.below HBE.out (Nat.le_refl _)).fl hlt
              have hk : ks[j]? = some f.1 := by rw [← HKS.out, List.getElem?_map, hf]; rfl
              have HTK := Lib.hid (take_snoc hk)
              obtain ⟨s, fd⟩ := f
              simp only at y0 y1 hk HTK
              have HSN := Lib.hid (chL_snoc a b (ks.take j) s)
              rw [← HTK.out] at HSN
              have HX : Hid (chg a b s = ⟨s, (lookF9 a s).isSome, (lookF9 b s).isSome, (lookF9 a s).getD eB, (lookF9 b s).getD eB⟩) := rfl
              have HFA : Hid (∀ W, Below w.heap.size w W → Calls Tryz.prog 66 #[.slice A0 n0 c0, .string s] W (FdD a s W)) := fun W hW => find9D_any A0 n0 c0 B a s W (H0.out.below hW hB) (by omega)
              have HFB : Hid (∀ W, Below w.heap.size w W → Calls Tryz.prog 66 #[.slice A1 n1 c1, .string s] W (FdD b s W)) := fun W hW => find9D_any A1 n1 c1 B b s W (H1.out.below hW hB) (by omega)
              unfold FdD at HFA HFB
              obtain ⟨ho, hho⟩ : ∃ x, (lookF9 a s).isSome = x := ⟨_, rfl⟩
              obtain ⟨hn', hhn⟩ : ∃ x, (lookF9 b s).isSome = x := ⟨_, rfl⟩
              obtain ⟨od, hod⟩ : ∃ x, (lookF9 a s).getD eB = x := ⟨_, rfl⟩
              obtain ⟨nd, hnd⟩ : ∃ x, (lookF9 b s).getD eB = x := ⟨_, rfl⟩
              rw [hho, hod] at HFA; rw [hhn, hnd] at HFB
              rw [hho, hhn, hod, hnd] at HX
              rw [HX.out] at HSN
              have HN : Hid (n = (chL a b (ks.take j)).length) := hn
              have hn400 : n ≤ 400 := by
                rw [HN.out]
                have := chL_len a b (ks.take j)
                rw [List.length_take] at this
                omega
              have HBW : Hid (Below w.heap.size w wr) := HBO.out.trans (HBE.out.mono HBO.out.size)
              have zw : w.heap.size ≤ wr.heap.size := HBW.out.size
              clear hf hk hho hhn hod hnd hn hO hBel
              go_wp2_with fail
              refine (HFA.out _ (HBW.out.alloc zw _)).mono ?_
              rintro e w5 ⟨rfl, rfl⟩
              clear HFA
              go_wp2_with fail
              refine (HFB.out _ (HBW.out.alloc zw _)).mono ?_
              rintro e w5 ⟨rfl, rfl⟩
              clear HFB y0 y1
              by_cases hch : isCh ⟨s, ho, hn', od, nd⟩
              · have HS2 : Hid (chL a b (ks.take (j + 1)) = chL a b (ks.take j) ++ [⟨s, ho, hn', od, nd⟩]) := by have := HSN.out; rw [if_pos hch] at this; exact this
                unfold isCh at hch
                simp only [ne_eq] at hch
                have HCH := Lib.hid hch
                have hsq : (ho != hn') = false → (od.toList == nd.toList) = false := fun e => by
                  have : ho = hn' := by simpa using e
                  rcases HCH.out with h | h
                  · exact absurd this h
                  · exact str_ne h
                clear hch HSN HCH
                obtain ⟨X, hX⟩ : ∃ X : FCh, (⟨s, ho, hn', od, nd⟩ : FCh) = X := ⟨_, rfl⟩
                rw [hX] at HS2
                have HNW : Hid (Sl ((wr.alloc (.cells #[.string s, .bool ho, .bool hn', .string od, .string nd] 112)).alloc (.cells #[.string s, .bool ho, .bool hn', .string od, .string nd] 112)) (wr.heap.size + 2) 5 (some ⟨wr.heap.size + 1, 0, none⟩) 1 (fcC X)) := by
                  rw [← hX]
                  have h1 := Sl.of_bk (n := 1) (size := 5) (Bk.new (wr.alloc (.cells #[.string s, .bool ho, .bool hn', .string od, .string nd] 112)) 112 #[.string s, .bool ho, .bool hn', .string od, .string nd]) rfl
                  simp only [World.size_alloc] at h1
                  exact h1
                have HONE : Hid (∀ u ∈ fcC X, u.oneCell' = true) := by show ∀ u ∈ fcC X, u.oneCell' = true; rw [← hX]; simp [fcC, Value.oneCell']
                clear hX
                cases ho <;> cases hn'
                all_goals
                  first | have hsf := hsq rfl | skip
                  clear hsq
                  go_wp2_with (at_builtin; refine halt_app9 (.tmp 79) (.tmp 81) 58 rfl ?_)
                  refine unhalt ?_
                  refine wpList_append_apd (base := wo.heap.size) (size := 5) _ rfl (.tmp 79) (.tmp 81) 58 rfl 112 i0 _ 56 Tryz.underlying58 Hi.out Hz0.out Hz1.out Hz2.out rfl (by decide) A n c _ rfl (HO.out.below (((Below.refl _ wr).alloc (Nat.le_refl _) _).alloc (by rw [World.size_alloc]; exact Nat.le_succ _) _)) (wr.heap.size + 2) _ 1 _ (fcC X) rfl HNW.out HONE.out (by unfold maxLen; omega) (by omega) (by rw [World.size_alloc, World.size_alloc]; omega) ?_
                  intro A4 c4 w4 ha4 hb4 hn4 hm4 _
                  have HA4 : Hid (Apd w4 wo.heap.size 112 5 A4 (n + 1) c4 (flat fcC (chL a b (ks.take (j + 1))))) := by
                    show Apd _ _ _ _ _ _ _ _
                    rw [HS2.out, flat_append]
                    have e : flat fcC [X] = fcC X := by simp [flat]
                    rw [e]; exact ha4
                  have HB4 : Hid (Below wo.heap.size wo w4) := ((HBE.out.alloc zr _).alloc (by rw [World.size_alloc]; omega) _).trans hb4
                  have HN4 : Hid (n + 1 = (chL a b (ks.take (j + 1))).length) := by show _ = _; rw [HS2.out, List.length_append, ← HN.out]; rfl
                  clear ha4 hb4 HO HBE
                  go_wp2_with fail
                  go_roundw
                  case rel => exact ⟨j + 1, n + 1, c4, A4, hlt, by go_num, rfl, HN4.out, hn4, hm4, HA4.out, HB4.out⟩
                  case measure => simp [intOf]; omega
              · have HS2 : Hid (chL a b (ks.take (j + 1)) = chL a b (ks.take j)) := by have := HSN.out; rw [if_neg hch] at this; exact this
                clear HSN
                unfold isCh at hch
                simp only [ne_eq, not_or, Decidable.not_not] at hch
                obtain ⟨rfl, rfl⟩ := hch
                have hbb : (ho != ho) = false := by simp
                have hss : (od.toList == od.toList) = true := by simp
                go_wp2_with fail
                go_roundw
                case rel => exact ⟨j + 1, n, c, A, hlt, by go_num, rfl, by rw [HS2.out]; exact HN.out, hnc, hcm, by rw [HS2.out]; exact HO.out.below ((Below.refl _ wr).alloc (Nat.le_refl _) _), HBE.out.alloc zr _⟩
                case measure => simp [intOf]; omega
            · have hlz : ¬ (j : Int) < (ml : Int) := by omega
              have HE : Hid (ks.take j = ks) := List.take_of_length_le (by rw [HKL.out]; omega)
              have HN : Hid (n = (chL a b (ks.take j)).length) := hn
              clear hn hO hBel
              go_wp2_with fail
              go_ret
              have h1 := HO.out.sl
              have h2 := HN.out
              rw [HE.out] at h1 h2
              refine ⟨⟨chL a b ks, A, c, HDR.out, by rw [← h2]; rfl, by rw [← h2]; exact h1, by rw [← h2]; exact hnc, hcm, ?_⟩, HBO.out.trans (HBE.out.mono HBO.out.size)⟩
              have := chL_len a b ks
              rw [HKL.out] at this
              omega
theorem LdSeq.len {p : List Itm} {d : Dig} {fs : List Fl} (h : LdSeq p d fs) : fs.length ≤ 200 := by rw [h.perm.length_eq]; exact h.few
set_option maxRecDepth 100000 in
set_option maxHeartbeats 8000000 in
theorem rdiff9_any (A : Option Addr) (np cp B : Nat) (p : List Itm) (d e : Dig) (w : World) (h0 : Sl w B 3 A np (flat itC p)) (hB : B ≤ w.heap.size) (hnp : np ≤ 1000000) (hp : PlOk p) :
    Calls Tryz.prog 35 #[.slice A np cp, digV d, digV e] w (DfE p d e w) := by
  obtain ⟨d1, d2⟩ := d
  obtain ⟨e1, e2⟩ := e
  have HP := Lib.hid hp
  obtain ⟨W0, hW0⟩ : ∃ W, (w.alloc (.cells #[.int .u64 d1, .int .u64 d2] 30)).alloc (.cells #[.int .u64 e1, .int .u64 e2] 30) = W := ⟨_, rfl⟩
  have HB0 : Hid (Below w.heap.size w W0) := by rw [← hW0]; exact ((Below.refl _ w).alloc (Nat.le_refl _) _).alloc (by simp) _
  have HK1 : Hid (Bk W0 (w.heap.size + 1) 30 #[.int .u64 e1, .int .u64 e2]) := by
    rw [← hW0]
    have := Bk.new (w.alloc (.cells #[.int .u64 d1, .int .u64 d2] 30)) 30 #[.int .u64 e1, .int .u64 e2]
    rw [World.size_alloc] at this; exact this
  have HK0 : Hid (Bk W0 w.heap.size 30 #[.int .u64 d1, .int .u64 d2]) := by rw [← hW0]; exact (Bk.new w _ _).alloc _
  have H0 : Hid (Sl W0 B 3 A np (flat itC p)) := h0.below HB0.out hB
  have HC := Lib.hid (rload9_any A np cp B p (d1, d2) W0 H0.out (Nat.le_trans hB HB0.out.size) hnp hp)
  unfold RldE at HC
  have HW0 := Lib.hid hW0
  obtain ⟨x0, x1, _, _⟩ := HK0.out.two
  rw [← hW0] at x0 x1
  have zB : B ≤ W0.heap.size := Nat.le_trans hB HB0.out.size
  simp only [digV] at HC ⊢
  clear h0 hW0 hp
  go_enter Tryz.func35, Tryz.ntmps35
  go_wp2_with fail
  rw [HW0.out]
  refine HC.out.mono ?_
  rintro e w2 ⟨hq, hb⟩
  have HB2 : Hid (Below w.heap.size w w2) := HB0.out.trans (hb.mono HB0.out.size)
  have HK2 := Lib.hid (HK1.out.below hb HK1.out.lt)
  have H2 : Hid (Sl w2 B 3 A np (flat itC p)) := H0.out.below hb zB
  have zB2 : B ≤ w2.heap.size := Nat.le_trans zB hb.size
  have hb0 := Lib.hid hb
  clear hb HC HW0 x0 x1
  rcases hq with ⟨a, A2, c2, hld, rfl, hsl⟩ | ⟨err, hle, hz, rfl⟩
  case inr =>
    have t1 : (err != 0) = true := by rw [bne_iff_ne]; exact hz
    have HL := Lib.hid hle; have HZ := Lib.hid hz
    clear hle hz
    go_wp2_with fail
    go_ret2
    exact ⟨.inl ⟨err, HL.out, HZ.out, rfl⟩, HB2.out⟩
  case inl =>
    have HLA := Lib.hid hld; have HS2 := Lib.hid hsl
    have HC := Lib.hid (rload9_any A np cp B p (e1, e2) w2 H2.out zB2 hnp HP.out)
    unfold RldE at HC
    simp only [digV] at HC
    obtain ⟨x0, x1, _, _⟩ := HK2.out.two
    clear hld hsl
    go_wp2_with fail
    refine HC.out.mono ?_
    rintro e w3 ⟨hq, hb⟩
    have HB3 : Hid (Below w.heap.size w w3) := HB2.out.trans (hb.mono HB2.out.size)
    have HS3 := Lib.hid (sl_on9 HS2.out hb)
    clear hb HC x0 x1
    rcases hq with ⟨b, A3, c3, hld, rfl, hsl⟩ | ⟨err, hle, hz, rfl⟩
    case inr =>
      have t1 : (err != 0) = true := by rw [bne_iff_ne]; exact hz
      have HL := Lib.hid hle; have HZ := Lib.hid hz
      clear hle hz
      go_wp2_with fail
      go_ret2
      exact ⟨.inr ⟨a, HLA.out, .inl ⟨err, HL.out, HZ.out, rfl⟩⟩, HB3.out⟩
    case inl =>
      have HLB := Lib.hid hld; have HS4 := Lib.hid hsl
      have HC := Lib.hid (changes9_any A2 a.length c2 A3 b.length c3 w3.heap.size a b w3 HS3.out HS4.out (Nat.le_refl _) HLA.out.len HLB.out.len)
      unfold ChgE at HC
      clear hld hsl
      go_wp2_with fail
      refine HC.out.mono ?_
      rintro e w4 ⟨⟨ch, A4, c4, hd, rfl, hsl, hc1, hc2, hc3⟩, hb⟩
      have HB4 : Hid (Below w.heap.size w w4) := HB3.out.trans (hb.mono HB3.out.size)
      have HD := Lib.hid hd; have HS := Lib.hid hsl; have HC1 := Lib.hid hc1; have HC2 := Lib.hid hc2; have HC3 := Lib.hid hc3
      clear hb HC hd hsl hc1 hc2 hc3
      go_wp2_with fail
      go_ret2
      exact ⟨.inr ⟨a, HLA.out, .inr ⟨b, ch, A4, c4, HLB.out, HD.out, rfl, HS.out, HC1.out, HC2.out, HC3.out⟩⟩, HB4.out⟩
end Go.Proofs.YtmdhlkkekidknaaGreatDoor

namespace Go.Proofs.YtmdhlkkekidknaaGreatDoor
open Go.RowKit

def StrE (p : List Itm) (l : List Fl) (w : World) (e : Ending) (w' : World) : Prop :=
  ((∃ z, TckR l z ∧ z ≠ 0 ∧ e = .returned (.tuple #[.slice none 0 0, digV zD, .int .i64 z])) ∨
   (TckR l 0 ∧ ((∃ q d A c, sto 101 p l = some (q, d) ∧ StoR p q d l ∧ e = .returned (.tuple #[.slice A q.length c, digV d, .int .i64 0]) ∧ Sl w' w'.heap.size 3 A q.length (flat itC q) ∧ q.length ≤ c ∧ c ≤ maxLen) ∨ (sto 101 p l = none ∧ e = .returned (.tuple #[.slice none 0 0, digV zD, .int .i64 16]))))) ∧ Below w.heap.size w w'
theorem wt_ok {l : List Fl} (h : OkL l) : wt l ≤ 20200 := by
  have h1 := wt_le (l := l) (k := 100) (fun f hf => path_len (h.path f hf))
  have h2 := h.few
  have : (100 + 1) * l.length ≤ 101 * 200 := Nat.mul_le_mul_left 101 h2
  omega
set_option maxRecDepth 100000 in
set_option maxHeartbeats 4000000 in
theorem tstore_any (A : Option Addr) (n c B : Nat) (p : List Itm) (A1 : Option Addr) (m c1 : Nat) (l : List Fl) (w : World) (h0 : Sl w B 3 A n (flat itC p)) (h1 : Sl w B 2 A1 m (flat flC l)) (hB : B ≤ w.heap.size) (hnc : n ≤ c) (hcm : c ≤ maxLen) (hn : n ≤ 700000) (hm : m ≤ 1000000) (hp : PlOk p) (hsz : ∀ f ∈ l, f.1.size ≤ 1000000 ∧ f.2.size ≤ 60000) :
    Calls Tryz.prog 15 #[.slice A n c, .slice A1 m c1] w (StrE p l w) := by
  have HP := Lib.hid hp; have H0 := Lib.hid h0; have H1 := Lib.hid h1; have HSZ := Lib.hid hsz; have HNC := Lib.hid hnc; have HCM := Lib.hid hcm
  obtain ⟨W, hW⟩ : ∃ W, w.alloc (.cells #[.int .u64 0, .int .u64 0] 30) = W := ⟨_, rfl⟩
  have HB0 : Hid (Below w.heap.size w W) := by rw [← hW]; exact (Below.refl _ w).alloc (Nat.le_refl _) _
  have HD : Hid (Bk W w.heap.size 30 #[.int .u64 0, .int .u64 0]) := by rw [← hW]; exact Bk.new w _ _
  have HC := Lib.hid (tcheck_any A1 m c1 B l W (h1.below HB0.out hB) (Nat.le_trans hB HB0.out.size) hm hsz)
  have HW := Lib.hid hW
  have zW : w.heap.size < W.heap.size := HD.out.lt
  clear hp h0 h1 hsz hnc hcm hW
  go_enter Tryz.func15, Tryz.ntmps15
  go_wp2_with fail
  rw [HW.out]
  refine HC.out.mono ?_
  rintro e w2 ⟨z, rfl, hz, hb⟩
  have HZ := Lib.hid hz
  have HB2 : Hid (Below w.heap.size w w2) := HB0.out.trans (hb.mono HB0.out.size)
  have HD2 := Lib.hid (HD.out.below hb zW)
  obtain ⟨y0, y1, _, _⟩ := HD2.out.two
  have g0 := HD2.out.free 0; have g1 := HD2.out.free 1
  have z2 := hb.size
  clear hz hb HC
  by_cases h0 : z = 0
  · have t1 : (z != 0) = false := by rw [h0]; rfl
    have HZ0 : Hid (TckR l 0) := by show TckR l 0; rw [← h0]; exact HZ.out
    obtain ⟨hok, _⟩ := ck_ok HZ0.out (fun f hf => (HSZ.out f hf).2)
    have hwt := wt_ok hok
    have HS := Lib.hid (store_all 100 l hok (fun f hf => path_len (hok.path f hf)) p A n c A1 m c1 B w2 (H0.out.below HB2.out hB) (H1.out.below HB2.out hB) (Nat.le_trans hB HB2.out.size) HNC.out HCM.out HP.out (by omega))
    unfold StoE at HS
    simp only [digV] at HS
    clear h0 hok hwt
    go_wp2_with fail
    refine HS.out.mono ?_
    rintro e w3 ⟨hq, hb⟩
    have HB3 : Hid (Below w.heap.size w w3) := HB2.out.trans (hb.mono HB2.out.size)
    have HD3 := Lib.hid (HD2.out.below hb (by omega))
    obtain ⟨y0, y1, _, _⟩ := HD3.out.two
    have g0 := HD3.out.free 0; have g1 := HD3.out.free 1
    clear hb HS
    rcases hq with ⟨q, ⟨d1, d2⟩, A2, c2, hs, hr, rfl, hsl, hc2, hm2, _⟩ | ⟨hs, rfl⟩
    · have HN := Lib.hid hs; have HR := Lib.hid hr; have HSL := Lib.hid hsl
      have HNE := Lib.hid (HSL.out.dgbox HD3.out)
      clear hs hr hsl
      go_wp2_with fail
      refine bodyPost_ret (res_pcp Tryz.results15 rfl rfl (HD3.out.set2 _ _) rfl) rfl ⟨.inr ⟨HZ0.out, .inl ⟨q, (d1, d2), A2, c2, HN.out, HR.out, rfl, ?_, hc2, hm2⟩⟩, below_set2 HB3.out (Nat.le_refl _) _ _⟩
      have := HSL.out.ne (b := w.heap.size) HNE.out (fun k hk => (Below.heap_setCell (w3.setCell ⟨w.heap.size, 0, none⟩ (.int .u64 d1)) ⟨w.heap.size, 1, none⟩ (.int .u64 d2) k hk).trans (Below.heap_setCell w3 ⟨w.heap.size, 0, none⟩ (.int .u64 d1) k hk))
      simpa using this
    · have HN := Lib.hid hs
      clear hs
      go_wp2_with fail
      refine bodyPost_ret (res_pcp Tryz.results15 rfl rfl (HD3.out.set2 _ _) rfl) rfl ⟨.inr ⟨HZ0.out, .inr ⟨HN.out, rfl⟩⟩, below_set2 HB3.out (Nat.le_refl _) _ _⟩
  · have t1 : (z != 0) = true := by rw [bne_iff_ne]; exact h0
    have H0' := Lib.hid h0
    clear h0
    go_wp2_with fail
    refine bodyPost_ret (res_pcp Tryz.results15 rfl rfl (HD2.out.set2 _ _) rfl) rfl ⟨.inl ⟨z, HZ.out, H0'.out, rfl⟩, below_set2 HB2.out (Nat.le_refl _) _ _⟩
end Go.Proofs.YtmdhlkkekidknaaGreatDoor

namespace Go.Proofs.YtmdhlkkekidknaaGreatDoor
open Go.RowKit Go.Shelf

theorem run_clear_fl (w : World) (ty : TypeId) (b o c : Nat) (hc : ∀ j, j < 2 → (w.cell? ⟨b, o + j, none⟩).isSome = true) (hf : ∀ j, j < 2 → w.frozen? ⟨b, o + j, none⟩ = false) :
    (Builtin.clear_ #[24] ty #[.slice (some ⟨b, o, none⟩) 1 c]).run Tryz.prog w = .ok (.tuple #[]) (w.setCells b o [.string ⟨#[]⟩, .string ⟨#[]⟩]) := by
  have hv := Tryz.zeroValue68
  have hzc : (Builtin.zeroCells (Value.agg #[.string ⟨#[]⟩, .string ⟨#[]⟩]).cells 1).toList = [.string ⟨#[]⟩, .string ⟨#[]⟩] := by
    simp [Builtin.zeroCells, Value.cells]
    rfl
  have hst := run_storeCells_cells (P := Tryz.prog) b o [.string ⟨#[]⟩, .string ⟨#[]⟩] 0 w (by simpa using hc) (by simpa using hf) (by intro v hv'; simp at hv'; subst hv'; rfl)
  simp only [Nat.add_zero] at hst
  simp [Builtin.clear_, run_underlying Tryz.underlying24, hv, hzc, hst]
def delL (l : List Fl) (i : Nat) : List Fl := l.take i ++ l.drop (i + 1)
theorem delL_cells (l : List Fl) (i : Nat) : flat flC (delL l i) = (flat flC l).take (i * 2) ++ (flat flC l).drop ((i + 1) * 2) := by
  unfold delL
  rw [flat_append, flat_take flC_len, flat_drop flC_len]
def DelFE (base : Nat) (l : List Fl) (i : Nat) (w : World) (e : Ending) (w' : World) : Prop :=
  ∃ A c, e = .returned (.slice A (l.length - 1) c) ∧ Sl w' w'.heap.size 2 A (l.length - 1) (flat flC (delL l i)) ∧ Below base w w' ∧ l.length - 1 ≤ c ∧ c ≤ maxLen
set_option maxRecDepth 100000 in
set_option maxHeartbeats 4000000 in
theorem delF_any (base g n c i : Nat) (l : List Fl) (w : World) (ho : w.ownsRow base 68 2 (.slice (some ⟨g, 0, none⟩) n c) n (flat flC l)) (hln : l.length = n) (hi : i < n) (hn : n ≤ 1000000) :
    Calls Tryz.prog 65 #[.slice (some ⟨g, 0, none⟩) n c, .int .i64 i, .int .i64 ((i : Int) + 1)] w (DelFE base l i w) := by
  obtain ⟨hxl, hform⟩ := ho
  rcases hform with ⟨hv, _⟩ | ⟨g', c', cur, hv, hb, hh, h1, h2, h3, h4⟩
  · cases hv
  injection hv with hv1 hv2 hv3
  injection hv1 with hv1
  injection hv1 with hv1
  subst hv1; subst hv3
  have hcell : ∀ j v, (flat flC l)[j]? = some v → w.cell? ⟨g, j, none⟩ = some v := fun j v hj => by
    rw [← h4, List.getElem?_take] at hj
    split at hj
    · simp [World.cell?, hh]; simpa using hj
    · cases hj
  have hsp : ∀ j, j < n * 2 → (w.cell? ⟨g, j, none⟩).isSome = true := fun j hj => by
    have : j < cur.size := by omega
    simp [World.cell?, hh, this]
  have hfz : ∀ j, w.frozen? ⟨g, j, none⟩ = false := fun j => by simp [World.frozen?, hh]
  obtain ⟨xs, hxs⟩ : ∃ xs, flat flC l = xs := ⟨_, rfl⟩
  have HONE : Hid (∀ u ∈ xs, u.oneCell' = true) := by rw [← hxs]; exact flC_one' l
  have HINS := Lib.hid (delL_cells l i)
  rw [hxs] at hxl hcell HINS
  obtain ⟨news, hnews⟩ : ∃ news, xs.drop ((i + 1) * 2) = news := ⟨_, rfl⟩
  have hdl : news.length = (n - (i + 1)) * 2 := by rw [← hnews, List.length_drop]; omega
  have htl : (xs.take (i * 2)).length = i * 2 := by rw [List.length_take]; omega
  obtain ⟨i0, hii, hz0, hz1, hz2'⟩ := info_parts infoFlI
  have HII := Lib.hid hii; have HZ1 := Lib.hid hz1
  -- where the rest lies
  obtain ⟨A, hA, hsrc⟩ : ∃ A : Addr, (if c = i + 1 then some (⟨g, 0, none⟩ : Addr) else some ⟨g, (i + 1) * 2, none⟩) = some A ∧ Hid (∀ t u, news[t]? = some u → w.drew.cell? (A.add t) = some u) := by
    by_cases h : c = i + 1
    · refine ⟨⟨g, 0, none⟩, by simp [h], fun t u hu => ?_⟩
      have h0 : news.length = 0 := by rw [hdl]; omega
      rw [List.length_eq_zero_iff.1 h0] at hu
      simp at hu
    · refine ⟨⟨g, (i + 1) * 2, none⟩, by simp [h], fun t u hu => ?_⟩
      rw [Addr.add_lit]
      exact hcell _ u (by rw [← hnews, List.getElem?_drop] at hu; exact hu)
  have s1 : Hid (news.length = (n - (i + 1)) * 2) := hdl
  have s2 : Hid (∀ u ∈ news, u.oneCell' = true) := fun u hu => HONE.out u (by rw [← hnews] at hu; exact List.mem_of_mem_drop hu)
  have s3 : Hid (∀ t, t < news.length → (w.drew.cell? ⟨g, 0 + i * 2 + t, none⟩).isSome = true ∧ w.drew.frozen? ⟨g, 0 + i * 2 + t, none⟩ = false) := fun t ht => by
    rw [hdl] at ht
    exact ⟨hsp _ (by omega), hfz _⟩
  obtain ⟨W1, hW1⟩ : ∃ W1, w.drew.setCells g (0 + i * 2) news = W1 := ⟨_, rfl⟩
  have hs1 : ∀ k, k < n * 2 → (W1.cell? ⟨g, k, none⟩).isSome = true := fun k hk => by
    rw [← hW1]
    exact some_setCells g news (0 + i * 2) w.drew (fun j hj => by rw [hdl] at hj; exact hsp _ (by omega)) k (hsp k hk)
  have hf1 : ∀ k, W1.frozen? ⟨g, k, none⟩ = false := fun k => by rw [← hW1, World.frozen?_setCells]; exact hfz k
  have HCLR : Hid (∀ ty o d, o = (n - 1) * 2 → (Builtin.clear_ #[24] ty #[.slice (some ⟨g, o, none⟩) 1 d]).run Tryz.prog W1 = .ok (.tuple #[]) (W1.setCells g ((n - 1) * 2) [.string ⟨#[]⟩, .string ⟨#[]⟩])) := fun ty o d ho => by
    subst ho
    exact run_clear_fl W1 ty g _ d (fun j hj => hs1 _ (by omega)) (fun j _ => hf1 _)
  have HFIN : Hid (Sl (W1.setCells g ((n - 1) * 2) [.string ⟨#[]⟩, .string ⟨#[]⟩]) (W1.setCells g ((n - 1) * 2) [.string ⟨#[]⟩, .string ⟨#[]⟩]).heap.size 2 (some ⟨g, 0, none⟩) (n - 1) (flat flC (delL l i))) := by
    refine ⟨by rw [HINS.out, List.length_append, htl, hnews, hdl]; omega, fun _ => ⟨g, 0, rfl, ?_, fun j u hu => ?_⟩⟩
    · rw [size_setCells, ← hW1, size_setCells]; exact (Array.getElem?_eq_some_iff.1 hh).1
    · rw [HINS.out, hnews] at hu
      rw [Nat.zero_add]
      have hjl : j < (n - 1) * 2 := by
        have := (List.getElem?_eq_some_iff.1 hu).1
        rw [List.length_append, htl, hdl] at this; omega
      rw [World.cell?_setCells_out g _ _ _ _ (fun _ _ => by show j < _ ∨ _; omega), ← hW1]
      by_cases ha : j < i * 2
      · rw [List.getElem?_append_left (by omega), List.getElem?_take, if_pos ha] at hu
        rw [World.cell?_setCells_out g _ _ _ _ (fun _ _ => by show j < _ ∨ _; omega)]
        exact hcell j u hu
      · rw [List.getElem?_append_right (by omega), htl] at hu
        have hlt := (List.getElem?_eq_some_iff.1 hu).1
        have := World.cell?_setCells_in g news (0 + i * 2) w.drew (fun q hq => by rw [hdl] at hq; exact hsp _ (by omega)) (j - i * 2) hlt
        rw [show 0 + i * 2 + (j - i * 2) = j by omega] at this
        rw [this, ← hu]; exact (List.getElem?_eq_getElem _).symm
  have HBE : Hid (Below base w (W1.setCells g ((n - 1) * 2) [.string ⟨#[]⟩, .string ⟨#[]⟩])) := by
    rw [← hW1]
    exact below_setCells hb _ _ _ (below_setCells hb _ _ _ (Below.refl _ w).drew)
  have hW : Hid (w.drew.setCells g (0 + i * 2) news = W1) := hW1
  have hic : i ≤ c := by omega
  have hjc : i + 1 ≤ c := by omega
  have hc63 : c ≤ 9223372036854775807 := by unfold maxLen at h2; exact h2
  have hw1 : ((i : Int) + 1).toNat = i + 1 := by omega
  have hw2 : (0 : Int) ≤ (i : Int) + 1 := by omega
  have hw3 : (i : Int) + 1 ≤ (n : Int) := by omega
  have hw4 : ¬ ((i : Int) = (i : Int) + 1) := by omega
  have hw5 : (i : Int) ≤ (i : Int) + 1 := by omega
  have hw6 : (i : Int) + 1 ≤ (c : Int) := by omega
  clear hxs hh h4 hcell hsp hfz hs1 hf1 hW1 hnews hdl htl hii hz0 hz1 hz2'
  have hcl : (Builtin.clear_ #[24] 0 #[.slice (some ⟨g, (i + (n - (i + 1))) * 2, none⟩) (n - (i + (n - (i + 1)))) (c - (i + (n - (i + 1))))]).run Tryz.prog W1 = .ok (.tuple #[]) (W1.setCells g ((n - 1) * 2) [.string ⟨#[]⟩, .string ⟨#[]⟩]) := by
    have e1 : i + (n - (i + 1)) = n - 1 := by omega
    have e2 : n - (n - 1) = 1 := by omega
    rw [e1, e2]
    exact HCLR.out 0 _ _ rfl
  go_enter Tryz.func65, Tryz.ntmps65
  go_wp2_with fail
  go_region_law (refine step_append_room rfl (.tmp 22) (.tmp 25) 24 rfl 68 i0 2 Tryz.underlying24 HII.out HZ1.out g 0 i c (by simp [Act.eval, Act.put]) A (n - (i + 1)) (c - (i + 1)) news (by simp [Act.eval, Act.put]) s1.out hsrc.out s2.out (by omega) s3.out ?_; rw [hW.out])
  go_wp2
  go_ret
  have e1 : i + (n - (i + 1)) = n - 1 := by omega
  refine ⟨some ⟨g, 0, none⟩, c, ?_, by rw [hln]; exact HFIN.out, HBE.out, by omega, h2⟩
  rw [hln, ← e1]; rfl
end Go.Proofs.YtmdhlkkekidknaaGreatDoor

namespace Go.Proofs.YtmdhlkkekidknaaGreatDoor
open Go.RowKit Go.Shelf

theorem insL_with {l : List Fl} (h : AscF l) {f : Fl} (hn : lookF9 l f.1 = none) : insL l (atF l f.1) f = withF l f := by
  unfold insL withF
  obtain ⟨h1, h2⟩ := atF_split h f.1
  rw [h1, h2]
  congr 2
  refine List.filter_congr (fun g hg => ?_)
  have hne := look9_none.1 hn g hg
  cases h3 : less g.1 f.1 with
  | true => rw [lessB_asymm h3]; rfl
  | false =>
    cases h4 : less f.1 g.1 with
    | true => rfl
    | false => exact absurd (lessB_conn h3 h4) hne
theorem drop_more {l : List Fl} (h : AscF l) {s : ByteArray} {g : Fl} (hg : l[atF l s]? = some g) (he : g.1 = s) : l.drop (atF l s + 1) = l.filter (fun x => less s x.1) := by
  obtain ⟨h1, h2⟩ := atF_split h s
  have hd := drop_at hg
  have hl : l = l.take (atF l s) ++ g :: l.drop (atF l s + 1) := by rw [← hd, List.take_append_drop]
  have ha : AscF (g :: l.drop (atF l s + 1)) := by rw [← hd]; exact List.Pairwise.sublist (List.drop_sublist _ _) h
  have e1 : (l.take (atF l s)).filter (fun x => less s x.1) = [] := filter_none (fun x hx => by
    rw [h1, List.mem_filter] at hx
    exact lessB_asymm hx.2)
  have e2 : (l.drop (atF l s + 1)).filter (fun x => less s x.1) = l.drop (atF l s + 1) := filter_all (fun x hx => by rw [← he]; exact ha.head hx)
  conv => rhs; rw [hl]
  rw [List.filter_append, e1, List.nil_append, List.filter_cons_of_neg (by rw [he, lessB_irrefl]; simp), e2]
theorem set_with {l : List Fl} (h : AscF l) {f g : Fl} (hg : l[atF l f.1]? = some g) (he : g.1 = f.1) : l.take (atF l f.1) ++ f :: l.drop (atF l f.1 + 1) = withF l f := by
  rw [drop_more h hg he, (atF_split h f.1).1]; rfl
theorem del_wot {l : List Fl} (h : AscF l) {s : ByteArray} {g : Fl} (hg : l[atF l s]? = some g) (he : g.1 = s) : delL l (atF l s) = wotF l s := by
  refine AscF.ext (List.Pairwise.sublist ?_ h) (asc_wotF h s) (fun x => ?_)
  · unfold delL
    conv => rhs; rw [← List.take_append_drop (atF l s) l, drop_at hg]
    exact List.Sublist.append_left (List.sublist_cons_self _ _) _
  · unfold delL
    rw [drop_more h hg he, (atF_split h s).1, List.mem_append, List.mem_filter, List.mem_filter, mem_wotF]
    constructor
    · rintro (⟨h1, h2⟩ | ⟨h1, h2⟩)
      · exact ⟨h1, lessB_ne h2⟩
      · exact ⟨h1, fun e => lessB_ne h2 e.symm⟩
    · rintro ⟨h1, h2⟩
      cases h3 : less x.1 s with
      | true => exact .inl ⟨h1, rfl⟩
      | false =>
        cases h4 : less s x.1 with
        | true => exact .inr ⟨h1, rfl⟩
        | false => exact absurd (lessB_conn h3 h4) h2
theorem Sl.replace {w : World} {B n g i : Nat} {l : List Fl} {f : Fl} (h : Sl w B 2 (some ⟨g, 0, none⟩) n (flat flC l)) (hn : l.length = n) (hi : i < n) : Sl ((w.setCell ⟨g, i * 2, none⟩ (.string f.1)).setCell ⟨g, i * 2 + 1, none⟩ (.string f.2)) B 2 (some ⟨g, 0, none⟩) n (flat flC (l.take i ++ f :: l.drop (i + 1))) := by
  obtain ⟨hl, hc⟩ := h
  have hl2 : (flat flC l).length = n * 2 := hl
  refine ⟨by rw [flat_len flC_len, ← hn]; simp; omega, fun h0 => ?_⟩
  obtain ⟨b', off', e, hb, hcell⟩ := hc h0
  injection e with e
  injection e with e1 e2
  subst e1; subst e2
  refine ⟨g, 0, rfl, hb, fun j u hu => ?_⟩
  rw [flat_append, flat_take flC_len] at hu
  have hf : flat flC (f :: l.drop (i + 1)) = flC f ++ (flat flC l).drop ((i + 1) * 2) := by
    show flC f ++ flat flC (l.drop (i + 1)) = _
    rw [flat_drop flC_len]
  rw [hf] at hu
  have htl : ((flat flC l).take (i * 2)).length = i * 2 := by rw [List.length_take]; omega
  have hcl : ∀ j, j < n * 2 → w.cell? ⟨g, j, none⟩ = (flat flC l)[j]? := fun j hj => by
    have := hcell j _ (List.getElem?_eq_getElem (by omega))
    rw [Nat.zero_add] at this
    rw [this, List.getElem?_eq_getElem (by omega)]
  rw [Nat.zero_add]
  by_cases ha : j < i * 2
  · rw [List.getElem?_append_left (by omega), List.getElem?_take, if_pos ha] at hu
    rw [World.cell?_setCell_other _ _ _ _ (by intro e; injection e with _ e; omega), World.cell?_setCell_other _ _ _ _ (by intro e; injection e with _ e; omega), hcl j (by omega)]
    exact hu
  · rw [List.getElem?_append_right (by omega), htl] at hu
    have c0 : (w.cell? ⟨g, i * 2, none⟩).isSome = true := by rw [hcl _ (by omega), List.getElem?_eq_getElem (by omega)]; rfl
    have c1 : (w.cell? ⟨g, i * 2 + 1, none⟩).isSome = true := by rw [hcl _ (by omega), List.getElem?_eq_getElem (by omega)]; rfl
    rcases Nat.lt_or_ge j (i * 2 + 2) with hb' | hb'
    · rw [List.getElem?_append_left (by have : (flC f).length = 2 := rfl; omega)] at hu
      rcases Nat.lt_or_ge j (i * 2 + 1) with hc' | hc'
      · have e : j = i * 2 := by omega
        subst e
        rw [Nat.sub_self] at hu
        rw [World.cell?_setCell_other _ _ _ _ (by simp)]
        obtain ⟨v, hv⟩ := Option.isSome_iff_exists.1 c0
        rw [World.cell?_setCell_same _ _ _ hv]
        exact hu
      · have e : j = i * 2 + 1 := by omega
        subst e
        rw [show i * 2 + 1 - i * 2 = 1 by omega] at hu
        obtain ⟨v, hv⟩ := Option.isSome_iff_exists.1 c1
        rw [World.cell?_setCell_same _ _ _ (u := v) (by rw [World.cell?_setCell_other _ _ _ _ (by simp)]; exact hv)]
        exact hu
    · rw [List.getElem?_append_right (by have : (flC f).length = 2 := rfl; omega), List.getElem?_drop] at hu
      have hj : j < n * 2 := by
        have := (List.getElem?_eq_some_iff.1 hu).1
        have : (flC f).length = 2 := rfl
        omega
      rw [World.cell?_setCell_other _ _ _ _ (by intro e; injection e with _ e; omega), World.cell?_setCell_other _ _ _ _ (by intro e; injection e with _ e; omega), hcl j hj, ← hu]
      congr 1
      have : (flC f).length = 2 := rfl
      omega
end Go.Proofs.YtmdhlkkekidknaaGreatDoor

namespace Go.Proofs.YtmdhlkkekidknaaGreatDoor
open Go.RowKit Go.Shelf

def EdtE (p : List Itm) (d : Dig) (f : List Fl → Int × List Fl) (w : World) (e : Ending) (w' : World) : Prop :=
  ((∃ err, LodE p d err ∧ err ≠ 0 ∧ e = .returned (.tuple #[.slice none 0 0, digV zD, .int .i64 err])) ∨
   (∃ fs, LdSeq p d fs ∧ (((f fs).1 ≠ 0 ∧ e = .returned (.tuple #[.slice none 0 0, digV zD, .int .i64 (f fs).1])) ∨ ((f fs).1 = 0 ∧
    ((∃ z, TckR (f fs).2 z ∧ z ≠ 0 ∧ e = .returned (.tuple #[.slice none 0 0, digV zD, .int .i64 z])) ∨
     (TckR (f fs).2 0 ∧ ((∃ q dd A c, sto 101 p (f fs).2 = some (q, dd) ∧ StoR p q dd (f fs).2 ∧ e = .returned (.tuple #[.slice A q.length c, digV dd, .int .i64 0]) ∧ Sl w' w'.heap.size 3 A q.length (flat itC q) ∧ q.length ≤ c ∧ c ≤ maxLen) ∨ (sto 101 p (f fs).2 = none ∧ e = .returned (.tuple #[.slice none 0 0, digV zD, .int .i64 16])))))))))
  ∧ Below w.heap.size w w'
theorem own_fl {w : World} {base n c i : Nat} {A : Option Addr} {l : List Fl} (h : w.ownsRow base 68 2 (.slice A n c) n (flat flC l)) (hn : l.length = n) (hi : i < n) :
    ∃ g x y, A = some ⟨g, 0, none⟩ ∧ base ≤ g ∧ g < w.heap.size ∧ w.cell? ⟨g, i * 2, none⟩ = some x ∧ w.cell? ⟨g, i * 2 + 1, none⟩ = some y ∧ w.frozen? ⟨g, i * 2, none⟩ = false ∧ w.frozen? ⟨g, i * 2 + 1, none⟩ = false := by
  obtain ⟨hxl, hform⟩ := h
  rcases hform with ⟨hv, h0, _⟩ | ⟨g', c', cur, hv, hb, hh, h1, h2, h3, h4⟩
  · omega
  injection hv with hv1 hv2 hv3
  subst hv1
  have hsp : ∀ j, j < n * 2 → ∃ v, w.cell? ⟨g', j, none⟩ = some v := fun j hj => by
    have : j < cur.size := by omega
    exact ⟨cur[j], by simp [World.cell?, hh, this]⟩
  obtain ⟨x, hx⟩ := hsp (i * 2) (by omega)
  obtain ⟨y, hy⟩ := hsp (i * 2 + 1) (by omega)
  exact ⟨g', x, y, rfl, hb, (Array.getElem?_eq_some_iff.1 hh).1, hx, hy, by simp [World.frozen?, hh], by simp [World.frozen?, hh]⟩
def setF (path data : ByteArray) (fs : List Fl) : Int × List Fl := if pathB path = true then (0, withF fs (path, data)) else (6, [])
def remF (path : ByteArray) (fs : List Fl) : Int × List Fl := if pathB path = true then (match lookF9 fs path with | some _ => (0, wotF fs path) | none => (8, [])) else (6, [])
set_option maxRecDepth 100000 in
set_option maxHeartbeats 8000000 in
theorem tset_any (A : Option Addr) (np cp B : Nat) (p : List Itm) (d : Dig) (path data : ByteArray) (w : World) (h0 : Sl w B 3 A np (flat itC p)) (hB : B ≤ w.heap.size) (hnc : np ≤ cp) (hcm : cp ≤ maxLen) (hn : np ≤ 700000) (hp : PlOk p) (hs : ∀ i ∈ p, i.2.size ≤ 60000) (hps : path.size ≤ 1000000) (hds : data.size ≤ 60000) :
    Calls Tryz.prog 18 #[.slice A np cp, digV d, .string path, .string data] w (EdtE p d (setF path data) w) := by
  have HP := Lib.hid hp; have H0 := Lib.hid h0; have HS := Lib.hid hs; have HNC := Lib.hid hnc; have HCM := Lib.hid hcm
  obtain ⟨d1, d2⟩ := d
  obtain ⟨W, hW⟩ : ∃ W, (w.alloc (.cells #[.int .u64 d1, .int .u64 d2] 30)).alloc (.cells #[.int .u64 0, .int .u64 0] 30) = W := ⟨_, rfl⟩
  have HB0 : Hid (Below w.heap.size w W) := by rw [← hW]; exact ((Below.refl _ w).alloc (Nat.le_refl _) _).alloc (by simp) _
  have HD : Hid (Bk W (w.heap.size + 1) 30 #[.int .u64 0, .int .u64 0]) := by
    rw [← hW]
    have := Bk.new (w.alloc (.cells #[.int .u64 d1, .int .u64 d2] 30)) 30 #[.int .u64 0, .int .u64 0]
    rw [World.size_alloc] at this; exact this
  have zW : w.heap.size + 2 = W.heap.size := by rw [← hW]; simp
  have HC := Lib.hid (tload_any A np cp B p (d1, d2) W (h0.below HB0.out hB) (Nat.le_trans hB HB0.out.size) (by omega) hp)
  unfold LdEE at HC
  have HW := Lib.hid hW
  simp only [digV] at HC ⊢
  clear hp h0 hs hW hnc hcm
  go_enter Tryz.func18, Tryz.ntmps18
  go_wp2_with fail
  rw [HW.out]
  refine HC.out.mono ?_
  rintro e w2 ⟨hq, hb⟩
  have HB2 : Hid (Below w.heap.size w w2) := HB0.out.trans (hb.mono HB0.out.size)
  have HD2 := Lib.hid (HD.out.below hb (by omega))
  obtain ⟨y0, y1, _, _⟩ := HD2.out.two
  have g0 := HD2.out.free 0; have g1 := HD2.out.free 1
  have z2 : w.heap.size + 2 ≤ w2.heap.size := by have := hb.size; omega
  clear hb HC
  rcases hq with ⟨fs, A1, c1, hld, rfl, hown⟩ | ⟨err, hlod, hnz, rfl⟩
  case inr =>
    have t1 : (err != 0) = true := by rw [bne_iff_ne]; exact hnz
    have HL := Lib.hid hlod; have HNZ := Lib.hid hnz
    clear hlod hnz
    go_wp2_with fail
    refine bodyPost_ret (res_pcp Tryz.results18 rfl rfl (HD2.out.set2 _ _) rfl) rfl ⟨.inl ⟨err, HL.out, HNZ.out, rfl⟩, below_set2 HB2.out (by omega) _ _⟩
  case inl =>
    have HLD := Lib.hid hld; have HOW := Lib.hid hown
    obtain ⟨hok, _⟩ := load_std HP.out HS.out hld
    have HOK := Lib.hid hok
    have hfew := hok.few
    have HPI := Lib.hid (isPath_any path w2 (by unfold maxLen; omega))
    clear hld hown hok
    obtain ⟨pb, hpb⟩ : ∃ pb, pathB path = pb := ⟨_, rfl⟩
    rw [hpb] at HPI
    have HPB := Lib.hid hpb
    clear hpb
    go_wp2_with fail
    refine HPI.out.mono ?_
    rintro e w3 ⟨rfl, hb⟩
    have HB3 : Hid (Below w.heap.size w w3) := HB2.out.trans (hb.mono HB2.out.size)
    have HD3 := Lib.hid (HD2.out.below hb (by omega))
    have HO3 := Lib.hid (ownsRow_upon HOW.out hb)
    have z3 : w.heap.size + 2 ≤ w3.heap.size := by have := hb.size; omega
    have zb3 : W.heap.size ≤ w3.heap.size := by omega
    clear hb HPI y0 y1 g0 g1 HD2 HOW
    obtain ⟨y0, y1, _, _⟩ := HD3.out.two
    have g0 := HD3.out.free 0; have g1 := HD3.out.free 1
    cases pb with
    | false =>
      have HF : Hid (setF path data fs = (6, [])) := by show _ = _; unfold setF; rw [HPB.out]; rfl
      go_wp2_with fail
      refine bodyPost_ret (res_pcp Tryz.results18 rfl rfl (HD3.out.set2 _ _) rfl) rfl ⟨.inr ⟨fs, HLD.out, .inl ⟨by rw [HF.out]; decide, by rw [HF.out]; rfl⟩⟩, below_set2 HB3.out (by omega) _ _⟩
    | true =>
      have HF : Hid (setF path data fs = (0, withF fs (path, data))) := by show _ = _; unfold setF; rw [HPB.out]; rfl
      obtain ⟨W4, hW4⟩ : ∃ W4, w3.alloc (.cells #[.string path, .string data] 68) = W4 := ⟨_, rfl⟩
      have HB4 : Hid (Below w3.heap.size w3 W4) := by rw [← hW4]; exact (Below.refl _ w3).alloc (Nat.le_refl _) _
      have HK4 : Hid (Bk W4 w3.heap.size 68 #[.string path, .string data]) := by rw [← hW4]; exact Bk.new w3 _ _
      have HO4 := Lib.hid (ownsRow_upon HO3.out HB4.out)
      have z4 : w3.heap.size < W4.heap.size := HK4.out.lt
      have HFI := Lib.hid (tfind_any A1 fs.length c1 W4.heap.size fs path W4 (Sl.of_own HO4.out) (Nat.le_refl _) (by omega) HLD.out.asc)
      unfold TfE at HFI
      obtain ⟨m, hm⟩ : ∃ m, atF fs path = m := ⟨_, rfl⟩
      rw [hm] at HFI
      have HM := Lib.hid hm
      have HW4 := Lib.hid hW4
      have HD4 := Lib.hid (HD3.out.below HB4.out (by omega))
      clear hm hW4 y0 y1 g0 g1
      go_wp2_with fail
      rw [HW4.out]
      refine HFI.out.mono ?_
      rintro e w5 ⟨rfl, hb⟩
      have HO5 := Lib.hid (ownsRow_upon HO4.out hb)
      have HK5 := Lib.hid (HK4.out.below hb z4)
      have HD5 := Lib.hid (HD4.out.below hb (by omega))
      have HB5 : Hid (Below w.heap.size w w5) := HB3.out.trans ((HB4.out.trans (hb.mono HB4.out.size)).mono HB3.out.size)
      have z5 : w3.heap.size < w5.heap.size := Nat.lt_of_lt_of_le z4 hb.size
      clear hb HFI HB4 HK4 HO4 HD4 HD3 HO3 HB3
      obtain ⟨k0, k1, _, _⟩ := HK5.out.two
      have hmn : m ≤ fs.length := by rw [← HM.out]; exact atF_le _ _
      have HS : Hid (Sl w5 w5.heap.size 2 A1 fs.length (flat flC fs)) := Sl.of_own HO5.out
      obtain ⟨A1', c1', e1, hc1, hc2⟩ := ownsRow_form HO5.out
      simp only [Value.slice.injEq, true_and] at e1
      obtain ⟨rfl, rfl⟩ := e1
      have z5' : w.heap.size + 2 ≤ w5.heap.size := by omega
      have zb5 : W.heap.size ≤ w5.heap.size := by omega
      have h62 : ∀ f ∈ fs, f.1.size ≤ 1000000 ∧ f.2.size ≤ 60000 := fun f hf => ⟨Nat.le_trans (path_len (HOK.out.path f hf)) (by omega), HOK.out.data f hf⟩
      have H62 : Hid (∀ f ∈ withF fs (path, data), f.1.size ≤ 1000000 ∧ f.2.size ≤ 60000) := fun f hf => by
        rcases mem_withF.1 hf with ⟨h1, _⟩ | rfl
        · exact h62 f h1
        · exact ⟨hps, hds⟩
      clear h62
      cases hlk : lookF9 fs path with
      | some dd =>
        have hml : m < fs.length := by
          rcases Nat.lt_or_ge m fs.length with h | h
          · exact h
          · rw [look_end HLD.out.asc (by rw [HM.out]; exact h)] at hlk; cases hlk
        obtain ⟨g, x, y, rfl, hgb, hgl, hx, hy, hfx, hfy⟩ := own_fl HO5.out rfl hml
        have HR := Lib.hid (Sl.replace (f := (path, data)) HS.out rfl hml)
        have HSW : Hid (fs.take m ++ (path, data) :: fs.drop (m + 1) = withF fs (path, data)) := by
          obtain ⟨g', hg', he'⟩ : ∃ g', fs[atF fs path]? = some g' ∧ g'.1 = path := by
            rw [HM.out, List.getElem?_eq_getElem hml]
            refine ⟨_, rfl, ?_⟩
            have := look_at HLD.out.asc (s := path) (g := fs[m]) (by rw [HM.out, List.getElem?_eq_getElem hml])
            rw [hlk] at this
            split at this
            · assumption
            · cases this
          have := set_with HLD.out.asc (f := (path, data)) hg' he'
          rw [HM.out] at this
          exact this
        clear hlk
        obtain ⟨w6, hw6⟩ : ∃ w6, (w5.setCell ⟨g, m * 2, none⟩ (.string path)).setCell ⟨g, m * 2 + 1, none⟩ (.string data) = w6 := ⟨_, rfl⟩
        have HB6 : Hid (Below w.heap.size w w6) := by rw [← hw6]; exact (HB5.out.setCell (p := ⟨g, m * 2, none⟩) (by show w.heap.size ≤ g; omega) _).setCell (p := ⟨g, m * 2 + 1, none⟩) (by show w.heap.size ≤ g; omega) _
        have z6 : w6.heap.size = w5.heap.size := by rw [← hw6]; simp [World.setCell]
        have HS6 : Hid (Sl w6 w6.heap.size 2 (some ⟨g, 0, none⟩) fs.length (flat flC (withF fs (path, data)))) := by
          show Sl _ _ _ _ _ _
          rw [z6, ← HSW.out, ← hw6]; exact HR.out
        have HD6 : Hid (Bk w6 (w.heap.size + 1) 30 #[.int .u64 0, .int .u64 0]) := by rw [← hw6]; exact (HD5.out.far (p := ⟨g, m * 2, none⟩) (by show w.heap.size + 1 ≠ g; omega) _).far (p := ⟨g, m * 2 + 1, none⟩) (by show w.heap.size + 1 ≠ g; omega) _
        have HW6 := Lib.hid hw6
        have h6n : fs.length ≤ 1000000 := by omega
        clear hw6 HR HSW HO5 HS
        have H0S := Lib.hid (H0.out.below HB6.out hB)
        have HST := Lib.hid (tstore_any A np cp w6.heap.size p (some ⟨g, 0, none⟩) fs.length c1 (withF fs (path, data)) w6 (H0S.out.more (Nat.le_trans hB HB6.out.size)) HS6.out (Nat.le_refl _) HNC.out HCM.out hn h6n HP.out H62.out)
        unfold StrE at HST
        clear H0S
        go_wp2_with fail
        rw [HW6.out]
        refine HST.out.mono ?_
        rintro e w7 ⟨hq, hb⟩
        have HB7 : Hid (Below w.heap.size w w7) := HB6.out.trans (hb.mono HB6.out.size)
        have HD7 := Lib.hid (HD6.out.below hb (by omega))
        obtain ⟨y0, y1, _, _⟩ := HD7.out.two
        have g0 := HD7.out.free 0; have g1 := HD7.out.free 1
        clear hb HST
        rcases hq with ⟨z, hz, hnz, rfl⟩ | ⟨hz, ⟨q, ⟨d1, d2⟩, A3, c3, hs, hr, rfl, hsl, hc3, hm3⟩ | ⟨hs, rfl⟩⟩
        · have HZ := Lib.hid hz; have HN := Lib.hid hnz
          clear hz hnz
          simp only [digV] at *
          go_wp2_with fail
          refine bodyPost_ret (res_pcp Tryz.results18 rfl rfl (HD7.out.set2 _ _) rfl) rfl ⟨.inr ⟨fs, HLD.out, .inr ⟨by rw [HF.out], .inl ⟨z, by rw [HF.out]; exact HZ.out, HN.out, rfl⟩⟩⟩, below_set2 HB7.out (by omega) _ _⟩
        · have HZ := Lib.hid hz; have HN := Lib.hid hs; have HR := Lib.hid hr; have HSL := Lib.hid hsl
          have HNE := Lib.hid (HSL.out.dgbox HD7.out)
          clear hz hs hr hsl
          simp only [digV] at *
          go_wp2_with fail
          refine bodyPost_ret (res_pcp Tryz.results18 rfl rfl (HD7.out.set2 _ _) rfl) rfl ⟨.inr ⟨fs, HLD.out, .inr ⟨by rw [HF.out], .inr ⟨by rw [HF.out]; exact HZ.out, .inl ⟨q, (d1, d2), A3, c3, by rw [HF.out]; exact HN.out, by rw [HF.out]; exact HR.out, rfl, ?_, hc3, hm3⟩⟩⟩⟩, below_set2 HB7.out (by omega) _ _⟩
          have := HSL.out.ne (b := w.heap.size + 1) HNE.out (fun k hk => (Below.heap_setCell (w7.setCell ⟨w.heap.size + 1, 0, none⟩ (.int .u64 d1)) ⟨w.heap.size + 1, 1, none⟩ (.int .u64 d2) k hk).trans (Below.heap_setCell w7 ⟨w.heap.size + 1, 0, none⟩ (.int .u64 d1) k hk))
          simpa using this
        · have HZ := Lib.hid hz; have HN := Lib.hid hs
          clear hz hs
          simp only [digV] at *
          go_wp2_with fail
          refine bodyPost_ret (res_pcp Tryz.results18 rfl rfl (HD7.out.set2 _ _) rfl) rfl ⟨.inr ⟨fs, HLD.out, .inr ⟨by rw [HF.out], .inr ⟨by rw [HF.out]; exact HZ.out, .inr ⟨by rw [HF.out]; exact HN.out, rfl⟩⟩⟩⟩, below_set2 HB7.out (by omega) _ _⟩
      | none =>
        obtain ⟨W6, hW6⟩ : ∃ W6, w5.alloc (.cells #[.string path, .string data] 68) = W6 := ⟨_, rfl⟩
        have hbb : Below w5.heap.size w5 W6 := by rw [← hW6]; exact (Below.refl _ w5).alloc (Nat.le_refl _) _
        have HK6 : Hid (Bk W6 w5.heap.size 68 #[.string path, .string data]) := by rw [← hW6]; exact Bk.new w5 _ _
        have HO6 := Lib.hid (ownsRow_upon HO5.out hbb)
        have z6 : w5.heap.size < W6.heap.size := HK6.out.lt
        have HIL : Hid (insL fs m (path, data) = withF fs (path, data)) := by
          show _ = _
          rw [← HM.out]; exact insL_with (f := (path, data)) HLD.out.asc hlk
        have HI : Hid (Calls Tryz.prog 50 #[.slice A1 fs.length c1, .int .i64 m, .slice (some ⟨w5.heap.size, 0, none⟩) 1 1] W6 (InsFE W.heap.size fs m (path, data) W6)) := by
          rcases Nat.lt_or_ge m fs.length with hml | hml
          · obtain ⟨g, x, y, rfl, hgb, hgl, _⟩ := own_fl HO5.out rfl hml
            rcases Nat.lt_or_ge fs.length c1 with hcl | hcl
            · exact insF_room W.heap.size g fs.length c1 m w5.heap.size fs (path, data) W6 HO6.out rfl hml hcl (by omega) HK6.out (by omega)
            · have e : c1 = fs.length := by omega
              subst e
              exact insF_grow W.heap.size g fs.length m w5.heap.size fs (path, data) W6 (Sl.of_own HO6.out) rfl hml (by omega) HK6.out (by omega)
          · have e : m = fs.length := by omega
            subst e
            exact insF_end W.heap.size fs.length c1 w5.heap.size A1 fs (path, data) W6 HO6.out rfl (by omega) HK6.out (by omega)
        unfold InsFE at HI
        have HBB := Lib.hid hbb
        have HW6 := Lib.hid hW6
        clear hlk hbb hW6 HO5 HS
        go_wp2_with fail
        rw [HW6.out]
        refine HI.out.mono ?_
        rintro e w6 ⟨A2, c2, rfl, hsl, hb, hc2, hm2⟩
        rw [HIL.out] at hsl
        have HS6 := Lib.hid hsl
        have hb1 : Below w.heap.size w W6 := HB5.out.trans (HBB.out.mono HB5.out.size)
        have HB6 : Hid (Below w.heap.size w w6) := hb1.trans (hb.mono HB0.out.size)
        have HD6 := Lib.hid ((HD5.out.below HBB.out (by omega)).below hb (by omega))
        have zz := hb.size
        have h6n : fs.length + 1 ≤ 1000000 := by omega
        clear hsl hb hb1 HBB HI HIL HO6
        have H0S := Lib.hid (H0.out.below HB6.out hB)
        have HST := Lib.hid (tstore_any A np cp w6.heap.size p A2 (fs.length + 1) c2 (withF fs (path, data)) w6 (H0S.out.more (Nat.le_trans hB HB6.out.size)) HS6.out (Nat.le_refl _) HNC.out HCM.out hn h6n HP.out H62.out)
        unfold StrE at HST
        clear H0S
        go_wp2_with fail
        refine HST.out.mono ?_
        rintro e w7 ⟨hq, hb⟩
        have HB7 : Hid (Below w.heap.size w w7) := HB6.out.trans (hb.mono HB6.out.size)
        have HD7 := Lib.hid (HD6.out.below hb (by omega))
        obtain ⟨y0, y1, _, _⟩ := HD7.out.two
        have g0 := HD7.out.free 0; have g1 := HD7.out.free 1
        clear hb HST
        rcases hq with ⟨z, hz, hnz, rfl⟩ | ⟨hz, ⟨q, ⟨d1, d2⟩, A3, c3, hs, hr, rfl, hsl, hc3, hm3⟩ | ⟨hs, rfl⟩⟩
        · have HZ := Lib.hid hz; have HN := Lib.hid hnz
          clear hz hnz
          simp only [digV] at *
          go_wp2_with fail
          refine bodyPost_ret (res_pcp Tryz.results18 rfl rfl (HD7.out.set2 _ _) rfl) rfl ⟨.inr ⟨fs, HLD.out, .inr ⟨by rw [HF.out], .inl ⟨z, by rw [HF.out]; exact HZ.out, HN.out, rfl⟩⟩⟩, below_set2 HB7.out (by omega) _ _⟩
        · have HZ := Lib.hid hz; have HN := Lib.hid hs; have HR := Lib.hid hr; have HSL := Lib.hid hsl
          have HNE := Lib.hid (HSL.out.dgbox HD7.out)
          clear hz hs hr hsl
          simp only [digV] at *
          go_wp2_with fail
          refine bodyPost_ret (res_pcp Tryz.results18 rfl rfl (HD7.out.set2 _ _) rfl) rfl ⟨.inr ⟨fs, HLD.out, .inr ⟨by rw [HF.out], .inr ⟨by rw [HF.out]; exact HZ.out, .inl ⟨q, (d1, d2), A3, c3, by rw [HF.out]; exact HN.out, by rw [HF.out]; exact HR.out, rfl, ?_, hc3, hm3⟩⟩⟩⟩, below_set2 HB7.out (by omega) _ _⟩
          have := HSL.out.ne (b := w.heap.size + 1) HNE.out (fun k hk => (Below.heap_setCell (w7.setCell ⟨w.heap.size + 1, 0, none⟩ (.int .u64 d1)) ⟨w.heap.size + 1, 1, none⟩ (.int .u64 d2) k hk).trans (Below.heap_setCell w7 ⟨w.heap.size + 1, 0, none⟩ (.int .u64 d1) k hk))
          simpa using this
        · have HZ := Lib.hid hz; have HN := Lib.hid hs
          clear hz hs
          simp only [digV] at *
          go_wp2_with fail
          refine bodyPost_ret (res_pcp Tryz.results18 rfl rfl (HD7.out.set2 _ _) rfl) rfl ⟨.inr ⟨fs, HLD.out, .inr ⟨by rw [HF.out], .inr ⟨by rw [HF.out]; exact HZ.out, .inr ⟨by rw [HF.out]; exact HN.out, rfl⟩⟩⟩⟩, below_set2 HB7.out (by omega) _ _⟩
end Go.Proofs.YtmdhlkkekidknaaGreatDoor

namespace Go.Proofs.YtmdhlkkekidknaaGreatDoor
open Go.RowKit Go.Shelf
set_option maxRecDepth 100000 in
set_option maxHeartbeats 8000000 in
theorem trem_any (A : Option Addr) (np cp B : Nat) (p : List Itm) (d : Dig) (path : ByteArray) (w : World) (h0 : Sl w B 3 A np (flat itC p)) (hB : B ≤ w.heap.size) (hnc : np ≤ cp) (hcm : cp ≤ maxLen) (hn : np ≤ 700000) (hp : PlOk p) (hs : ∀ i ∈ p, i.2.size ≤ 60000) (hps : path.size ≤ 1000000) :
    Calls Tryz.prog 27 #[.slice A np cp, digV d, .string path] w (EdtE p d (remF path) w) := by
  have HP := Lib.hid hp; have H0 := Lib.hid h0; have HS := Lib.hid hs; have HNC := Lib.hid hnc; have HCM := Lib.hid hcm
  obtain ⟨d1, d2⟩ := d
  obtain ⟨W, hW⟩ : ∃ W, (w.alloc (.cells #[.int .u64 d1, .int .u64 d2] 30)).alloc (.cells #[.int .u64 0, .int .u64 0] 30) = W := ⟨_, rfl⟩
  have HB0 : Hid (Below w.heap.size w W) := by rw [← hW]; exact ((Below.refl _ w).alloc (Nat.le_refl _) _).alloc (by simp) _
  have HD : Hid (Bk W (w.heap.size + 1) 30 #[.int .u64 0, .int .u64 0]) := by
    rw [← hW]
    have := Bk.new (w.alloc (.cells #[.int .u64 d1, .int .u64 d2] 30)) 30 #[.int .u64 0, .int .u64 0]
    rw [World.size_alloc] at this; exact this
  have zW : w.heap.size + 2 = W.heap.size := by rw [← hW]; simp
  have HC := Lib.hid (tload_any A np cp B p (d1, d2) W (h0.below HB0.out hB) (Nat.le_trans hB HB0.out.size) (by omega) hp)
  unfold LdEE at HC
  have HW := Lib.hid hW
  simp only [digV] at HC ⊢
  clear hp h0 hs hW hnc hcm
  go_enter Tryz.func27, Tryz.ntmps27
  go_wp2_with fail
  rw [HW.out]
  refine HC.out.mono ?_
  rintro e w2 ⟨hq, hb⟩
  have HB2 : Hid (Below w.heap.size w w2) := HB0.out.trans (hb.mono HB0.out.size)
  have HD2 := Lib.hid (HD.out.below hb (by omega))
  obtain ⟨y0, y1, _, _⟩ := HD2.out.two
  have g0 := HD2.out.free 0; have g1 := HD2.out.free 1
  have z2 : w.heap.size + 2 ≤ w2.heap.size := by have := hb.size; omega
  clear hb HC
  rcases hq with ⟨fs, A1, c1, hld, rfl, hown⟩ | ⟨err, hlod, hnz, rfl⟩
  case inr =>
    have t1 : (err != 0) = true := by rw [bne_iff_ne]; exact hnz
    have HL := Lib.hid hlod; have HNZ := Lib.hid hnz
    clear hlod hnz
    go_wp2_with fail
    refine bodyPost_ret (res_pcp Tryz.results27 rfl rfl (HD2.out.set2 _ _) rfl) rfl ⟨.inl ⟨err, HL.out, HNZ.out, rfl⟩, below_set2 HB2.out (by omega) _ _⟩
  case inl =>
    have HLD := Lib.hid hld; have HOW := Lib.hid hown
    obtain ⟨hok, _⟩ := load_std HP.out HS.out hld
    have HOK := Lib.hid hok
    have hfew := hok.few
    have HPI := Lib.hid (isPath_any path w2 (by unfold maxLen; omega))
    clear hld hown hok
    obtain ⟨pb, hpb⟩ : ∃ pb, pathB path = pb := ⟨_, rfl⟩
    rw [hpb] at HPI
    have HPB := Lib.hid hpb
    clear hpb
    go_wp2_with fail
    refine HPI.out.mono ?_
    rintro e w3 ⟨rfl, hb⟩
    have HB3 : Hid (Below w.heap.size w w3) := HB2.out.trans (hb.mono HB2.out.size)
    have HD3 := Lib.hid (HD2.out.below hb (by omega))
    have HO3 := Lib.hid (ownsRow_upon HOW.out hb)
    have z3 : w.heap.size + 2 ≤ w3.heap.size := by have := hb.size; omega
    have zb3 : W.heap.size ≤ w3.heap.size := by omega
    clear hb HPI y0 y1 g0 g1 HD2 HOW
    obtain ⟨y0, y1, _, _⟩ := HD3.out.two
    have g0 := HD3.out.free 0; have g1 := HD3.out.free 1
    cases pb with
    | false =>
      have HF : Hid (remF path fs = (6, [])) := by show _ = _; unfold remF; rw [HPB.out]; rfl
      go_wp2_with fail
      refine bodyPost_ret (res_pcp Tryz.results27 rfl rfl (HD3.out.set2 _ _) rfl) rfl ⟨.inr ⟨fs, HLD.out, .inl ⟨by rw [HF.out]; decide, by rw [HF.out]; rfl⟩⟩, below_set2 HB3.out (by omega) _ _⟩
    | true =>
      have HFI := Lib.hid (tfind_any A1 fs.length c1 w3.heap.size fs path w3 (Sl.of_own HO3.out) (Nat.le_refl _) (by omega) HLD.out.asc)
      unfold TfE at HFI
      obtain ⟨m, hm⟩ : ∃ m, atF fs path = m := ⟨_, rfl⟩
      rw [hm] at HFI
      have HM := Lib.hid hm
      clear hm y0 y1 g0 g1
      go_wp2_with fail
      refine HFI.out.mono ?_
      rintro e w5 ⟨rfl, hb⟩
      have HO5 := Lib.hid (ownsRow_upon HO3.out hb)
      have HD5 := Lib.hid (HD3.out.below hb (by omega))
      have HB5 : Hid (Below w.heap.size w w5) := HB3.out.trans (hb.mono HB3.out.size)
      have z5 : w3.heap.size ≤ w5.heap.size := hb.size
      clear hb HFI HD3 HO3 HB3
      obtain ⟨y0, y1, _, _⟩ := HD5.out.two
      have g0 := HD5.out.free 0; have g1 := HD5.out.free 1
      have hmn : m ≤ fs.length := by rw [← HM.out]; exact atF_le _ _
      obtain ⟨A1', c1', e1, hc1, hc2⟩ := ownsRow_form HO5.out
      simp only [Value.slice.injEq, true_and] at e1
      obtain ⟨rfl, rfl⟩ := e1
      have H62 : Hid (∀ f ∈ wotF fs path, f.1.size ≤ 1000000 ∧ f.2.size ≤ 60000) := fun f hf => by
        have hf := (mem_wotF.1 hf).1
        exact ⟨Nat.le_trans (path_len (HOK.out.path f hf)) (by omega), HOK.out.data f hf⟩
      cases hlk : lookF9 fs path with
      | none =>
        have HF : Hid (remF path fs = (8, [])) := by show _ = _; unfold remF; rw [HPB.out, hlk]; rfl
        clear hlk
        go_wp2_with fail
        refine bodyPost_ret (res_pcp Tryz.results27 rfl rfl (HD5.out.set2 _ _) rfl) rfl ⟨.inr ⟨fs, HLD.out, .inl ⟨by rw [HF.out]; decide, by rw [HF.out]; rfl⟩⟩, below_set2 HB5.out (by omega) _ _⟩
      | some dd =>
        have HF : Hid (remF path fs = (0, wotF fs path)) := by show _ = _; unfold remF; rw [HPB.out, hlk]; rfl
        have hml : m < fs.length := by
          rcases Nat.lt_or_ge m fs.length with h | h
          · exact h
          · rw [look_end HLD.out.asc (by rw [HM.out]; exact h)] at hlk; cases hlk
        obtain ⟨g, x, y, rfl, hgb, hgl, _⟩ := own_fl HO5.out rfl hml
        have HSW : Hid (delL fs m = wotF fs path) := by
          obtain ⟨g', hg', he'⟩ : ∃ g', fs[atF fs path]? = some g' ∧ g'.1 = path := by
            rw [HM.out, List.getElem?_eq_getElem hml]
            refine ⟨_, rfl, ?_⟩
            have := look_at HLD.out.asc (s := path) (g := fs[m]) (by rw [HM.out, List.getElem?_eq_getElem hml])
            rw [hlk] at this
            split at this
            · assumption
            · cases this
          have := del_wot HLD.out.asc hg' he'
          rw [HM.out] at this
          exact this
        have HI := Lib.hid (delF_any W.heap.size g fs.length c1 m fs w5 HO5.out rfl hml (by omega))
        unfold DelFE at HI
        have hw1 : IntKind.i64.wrap ((m : Int) + 1) = (m : Int) + 1 := by rw [IntKind.wrap_i64]; omega
        clear hlk HO5 y0 y1 g0 g1
        go_wp2_with fail
        refine HI.out.mono ?_
        rintro e w6 ⟨A2, c2, rfl, hsl, hb, hc2, hm2⟩
        rw [HSW.out] at hsl
        have HS6 := Lib.hid hsl
        have HB6 : Hid (Below w.heap.size w w6) := HB5.out.trans (hb.mono HB0.out.size)
        have HD6 := Lib.hid (HD5.out.below hb (by omega))
        have zz := hb.size
        have h6n : fs.length - 1 ≤ 1000000 := by omega
        clear hsl hb HI HSW
        have H0S := Lib.hid (H0.out.below HB6.out hB)
        have HST := Lib.hid (tstore_any A np cp w6.heap.size p A2 (fs.length - 1) c2 (wotF fs path) w6 (H0S.out.more (Nat.le_trans hB HB6.out.size)) HS6.out (Nat.le_refl _) HNC.out HCM.out hn h6n HP.out H62.out)
        unfold StrE at HST
        clear H0S
        go_wp2_with fail
        refine HST.out.mono ?_
        rintro e w7 ⟨hq, hb⟩
        have HB7 : Hid (Below w.heap.size w w7) := HB6.out.trans (hb.mono HB6.out.size)
        have HD7 := Lib.hid (HD6.out.below hb (by omega))
        obtain ⟨y0, y1, _, _⟩ := HD7.out.two
        have g0 := HD7.out.free 0; have g1 := HD7.out.free 1
        clear hb HST
        rcases hq with ⟨z, hz, hnz, rfl⟩ | ⟨hz, ⟨q, ⟨d1, d2⟩, A3, c3, hs, hr, rfl, hsl, hc3, hm3⟩ | ⟨hs, rfl⟩⟩
        · have HZ := Lib.hid hz; have HN := Lib.hid hnz
          clear hz hnz
          simp only [digV] at *
          go_wp2_with fail
          refine bodyPost_ret (res_pcp Tryz.results27 rfl rfl (HD7.out.set2 _ _) rfl) rfl ⟨.inr ⟨fs, HLD.out, .inr ⟨by rw [HF.out], .inl ⟨z, by rw [HF.out]; exact HZ.out, HN.out, rfl⟩⟩⟩, below_set2 HB7.out (by omega) _ _⟩
        · have HZ := Lib.hid hz; have HN := Lib.hid hs; have HR := Lib.hid hr; have HSL := Lib.hid hsl
          have HNE := Lib.hid (HSL.out.dgbox HD7.out)
          clear hz hs hr hsl
          simp only [digV] at *
          go_wp2_with fail
          refine bodyPost_ret (res_pcp Tryz.results27 rfl rfl (HD7.out.set2 _ _) rfl) rfl ⟨.inr ⟨fs, HLD.out, .inr ⟨by rw [HF.out], .inr ⟨by rw [HF.out]; exact HZ.out, .inl ⟨q, (d1, d2), A3, c3, by rw [HF.out]; exact HN.out, by rw [HF.out]; exact HR.out, rfl, ?_, hc3, hm3⟩⟩⟩⟩, below_set2 HB7.out (by omega) _ _⟩
          have := HSL.out.ne (b := w.heap.size + 1) HNE.out (fun k hk => (Below.heap_setCell (w7.setCell ⟨w.heap.size + 1, 0, none⟩ (.int .u64 d1)) ⟨w.heap.size + 1, 1, none⟩ (.int .u64 d2) k hk).trans (Below.heap_setCell w7 ⟨w.heap.size + 1, 0, none⟩ (.int .u64 d1) k hk))
          simpa using this
        · have HZ := Lib.hid hz; have HN := Lib.hid hs
          clear hz hs
          simp only [digV] at *
          go_wp2_with fail
          refine bodyPost_ret (res_pcp Tryz.results27 rfl rfl (HD7.out.set2 _ _) rfl) rfl ⟨.inr ⟨fs, HLD.out, .inr ⟨by rw [HF.out], .inr ⟨by rw [HF.out]; exact HZ.out, .inr ⟨by rw [HF.out]; exact HN.out, rfl⟩⟩⟩⟩, below_set2 HB7.out (by omega) _ _⟩
end Go.Proofs.YtmdhlkkekidknaaGreatDoor

namespace Go.Proofs.YtmdhlkkekidknaaGreatDoor
open Go.RowKit

def sA : ByteArray := ⟨#[97]⟩
def sAX : ByteArray := ⟨#[97, 47, 120]⟩
def sX : ByteArray := ⟨#[120]⟩
def sB : ByteArray := ⟨#[98]⟩
def s1 : ByteArray := ⟨#[49]⟩
def s2 : ByteArray := ⟨#[50]⟩
def s3 : ByteArray := ⟨#[51]⟩
def awL : List Fl := [(sAX, s1), (sB, s2)]
theorem encT_s (s : ByteArray) (h : s.size < 128) : encT (toL s) = UInt8.ofNat s.size :: toL s := by
  unfold encT
  have : (toL s).length = s.size := by simp [toL]
  rw [this, encN_small h]; rfl
theorem enc_blob (s : ByteArray) (h : s.size < 128) : encO (blobO s) = 1 :: UInt8.ofNat s.size :: toL s := by
  show encN 1 ++ encT (toL s) = _
  rw [encN_small (by omega), encT_s s h]; rfl
theorem encE_s (e : Ent) (h : e.nm.size < 128) : encE e = UInt8.ofNat e.nm.size :: toL e.nm ++ (if e.dir = true then 1 else 0) :: digB e.dg := by
  unfold encE
  rw [encT_s _ h]
  cases e.dir <;> rw [encN_small (by simp)] <;> simp
theorem enc_tree (es : List Ent) (h : es.length < 128) : encO (treeO es) = 2 :: UInt8.ofNat es.length :: es.flatMap encE := by
  show encN 2 ++ (encN es.length ++ es.flatMap encE) = _
  rw [encN_small (n := 2) (by omega), encN_small h]; rfl
def xB1 : Itm := (ofB [1, 1, 49], ofL [1, 1, 49])
def xB2 : Itm := (ofB [1, 1, 50], ofL [1, 1, 50])
def bT : Bytes := [2, 1, 1, 120, 0] ++ digB (ofB [1, 1, 49])
def xT : Itm := (ofB bT, ofL bT)
def bR : Bytes := [2, 2, 1, 97, 1] ++ digB (ofB bT) ++ [1, 98, 0] ++ digB (ofB [1, 1, 50])
def xR : Itm := (ofB bR, ofL bR)
def q1 : List Itm := (insP [] xB1).getD []
def q2 : List Itm := (insP q1 xT).getD []
def q3 : List Itm := (insP q2 xB2).getD []
def q4 : List Itm := (insP q3 xR).getD []
theorem some_of {α : Type} {o : Option (List α)} (h : o.isSome = true) : o = some (o.getD []) := by cases o with | none => cases h | some _ => rfl
theorem i1 : insP [] xB1 = some q1 := some_of (by decide +kernel)
theorem i2 : insP q1 xT = some q2 := some_of (by decide +kernel)
theorem i3 : insP q2 xB2 = some q3 := some_of (by decide +kernel)
theorem i4 : insP q3 xR = some q4 := some_of (by decide +kernel)
theorem q4_len : q4.length = 4 := by decide +kernel
theorem put1 : putP [] (blobO s1) = some q1 := by unfold putP; rw [enc_blob s1 (by decide)]; exact i1
theorem put3 : putP q2 (blobO s2) = some q3 := by unfold putP; rw [enc_blob s2 (by decide)]; exact i3
theorem dg1_eq : dgO (blobO s1) = ofB [1, 1, 49] := by unfold dgO; rw [enc_blob s1 (by decide)]; rfl
theorem dg2_eq : dgO (blobO s2) = ofB [1, 1, 50] := by unfold dgO; rw [enc_blob s2 (by decide)]; rfl
theorem encT1 : encO (treeO [⟨sX, false, ofB [1, 1, 49]⟩]) = bT := by
  rw [enc_tree _ (by decide), List.flatMap_cons, List.flatMap_nil, encE_s _ (by decide)]; rfl
theorem encR1 : encO (treeO [⟨sA, true, ofB bT⟩, ⟨sB, false, ofB [1, 1, 50]⟩]) = bR := by
  rw [enc_tree _ (by decide), List.flatMap_cons, List.flatMap_cons, List.flatMap_nil, encE_s _ (by decide), encE_s _ (by decide)]
  rfl
theorem nm1 : nmsP awL = [sA, sB] := by decide +kernel
theorem nm2 : nmsP [(sX, s1)] = [sX] := by decide +kernel
theorem in1 : inD awL sA = [(sX, s1)] := by decide +kernel
theorem sto_sub (k : Nat) : sto (k + 1) [] [(sX, s1)] = some (q2, ofB bT) := by
  rw [sto, nm2, stoE_file (s := s1) (by decide +kernel) put1, stoE, List.nil_append, dg1_eq]
  simp only
  have : putP q1 (treeO [⟨sX, false, ofB [1, 1, 49]⟩]) = some q2 := by unfold putP; rw [encT1]; exact i2
  rw [this]
  simp only [dgO, encT1]
theorem sto_aw : sto 101 [] awL = some (q4, ofB bR) := by
  rw [sto, nm1, stoE_dir (by decide +kernel) (by rw [in1]; exact sto_sub 99), stoE_file (s := s2) (by decide +kernel) put3, stoE, List.nil_append, dg2_eq]
  simp only [List.cons_append, List.nil_append]
  have : putP q3 (treeO [⟨sA, true, ofB bT⟩, ⟨sB, false, ofB [1, 1, 50]⟩]) = some q4 := by unfold putP; rw [encR1]; exact i4
  rw [this]
  simp only [dgO, encR1]
end Go.Proofs.YtmdhlkkekidknaaGreatDoor

namespace Go.Proofs.YtmdhlkkekidknaaGreatDoor
open Go.RowKit Go.Shelf

theorem first_hit (q : Nat → Bool) : ∀ n : Nat, (∀ j, j < n → q j = false) ∨ ∃ k, k < n ∧ q k = true ∧ ∀ j, j < k → q j = false
  | 0 => .inl fun j hj => absurd hj (Nat.not_lt_zero _)
  | n + 1 => by
    rcases first_hit q n with h | ⟨k, h1, h2, h3⟩
    · cases hq : q n with
      | true => exact .inr ⟨n, Nat.lt_succ_self n, hq, h⟩
      | false =>
        refine .inl fun j hj => ?_
        rcases Nat.lt_succ_iff_lt_or_eq.1 hj with h' | rfl
        · exact h j h'
        · exact hq
    · exact .inr ⟨k, by omega, h2, h3⟩
instance : Inhabited Ent := ⟨⟨⟨#[]⟩, false, (0, 0)⟩⟩
def IxE (es : List Ent) (s : ByteArray) (w : World) (e : Ending) (w' : World) : Prop :=
  ((∃ (j : Nat) (x : Ent), j < es.length ∧ es[j]? = some x ∧ entN es s = some x ∧ e = .returned (.int .i64 (j : Int))) ∨ (entN es s = none ∧ e = .returned (.int .i64 (-1)))) ∧ Below w.heap.size w w'
set_option maxRecDepth 100000 in
set_option maxHeartbeats 1000000 in
theorem get1_any (bx : Nat) (s : ByteArray) (x : Ent) (w : World) (hk : Bk w bx 9 #[.string s]) :
    Calls Tryz.prog 71 #[.agg (enC x).toArray, .pointer (some ⟨bx, 0, none⟩)] w fun e w' => e = .returned (.bool (decide (x.nm = s))) ∧ Below w.heap.size w w' := by
  obtain ⟨nm, dir, d1, d2⟩ := x
  have h0 : w.cell? ⟨bx, 0, none⟩ = some (.string s) := by rw [hk.cell]; rfl
  have h1 := World.cell?_alloc_old w (.cells #[.string nm, .bool dir, .int .u64 d1, .int .u64 d2] 102) ⟨bx, 0, none⟩ (Nat.ne_of_lt hk.lt)
  rw [h0] at h1
  simp only [enC]
  clear hk
  go_enter Tryz.func71, Tryz.ntmps71
  go_wp2_with fail
  go_ret
  refine ⟨?_, (Below.refl _ w).alloc (Nat.le_refl _) _⟩
  rw [← str_dec]; rfl
set_option maxRecDepth 100000 in
set_option maxHeartbeats 1000000 in
theorem ixe_any (A : Option Addr) (n c bx : Nat) (es : List Ent) (s : ByteArray) (w : World) (h0 : Sl w w.heap.size 4 A n (flat enC es)) (hk : Bk w bx 9 #[.string s]) (hn : n ≤ 9223372036854775807) :
    Calls Tryz.prog 70 #[.slice A n c, .func (.func 71) #[] #[.pointer (some ⟨bx, 0, none⟩)]] w (IxE es s w) := by
  have hl := h0.len enC_len (by omega)
  by_cases hz : n = 0
  · subst hz
    have hes : es = [] := List.eq_nil_of_length_eq_zero hl
    subst hes
    clear h0 hk
    go_enter Tryz.func70, Tryz.ntmps70
    go_wp2_with fail
    go_loopg [5, 8] 0 (fun gg _ s8 wr => s8 = .int .i64 0 ∧ wr = w)
    case atStart => exact ⟨rfl, rfl⟩
    case round =>
      obtain ⟨rfl, rfl⟩ := hrel
      go_wp2_with fail
      go_ret
      exact ⟨.inr ⟨rfl, rfl⟩, Below.refl _ _⟩
  · obtain ⟨b, off, rfl, hb, hc⟩ := h0.2 (by omega)
    have hp : PredBelow Tryz.prog 71 #[.pointer (some ⟨bx, 0, none⟩)] (fun x => .agg (enC x).toArray) (fun x => decide (x.nm = s)) w := fun W x hW =>
      (get1_any bx s x W (hk.below hW hk.lt)).mono fun e w' ⟨h1, h2⟩ => ⟨h1, hW.trans (h2.mono hW.size)⟩
    have h := AnyQ.slices_IndexFunc Tryz.idxEnt 4 (Tryz.isAgg102) (Tryz.sizeOf102) enC enC_len (fun x => decide (x.nm = s)) 71 #[.pointer (some ⟨bx, 0, none⟩)] (enters_of Tryz.func71 rfl rfl) b off n c es w hp (by omega) hn hb (fun j hj i v hi => by
      have := hc (j * 4 + i) v ?_
      · rw [show off + j * 4 + i = off + (j * 4 + i) by omega]; exact this
      · rw [getElem!_pos es j hj] at hi
        have hi4 : i < 4 := (List.getElem?_eq_some_iff.1 hi).1
        rw [flat_get enC_len es j i es[j] (List.getElem?_eq_getElem hj) hi4]
        exact hi)
    refine h.mono fun e w' ⟨he, hw⟩ => ⟨?_, hw⟩
    rcases first_hit (fun j => decide ((es[j]!).nm = s)) n with hno | ⟨k, h1, h2, h3⟩
    · rw [Lib.idxBy_miss (fun _ y => decide (y.nm = s)) es n default hno] at he
      refine .inr ⟨entN_no fun i x hi => ?_, he⟩
      obtain ⟨hi1, hi2⟩ := List.getElem?_eq_some_iff.1 hi
      have := hno i (by omega)
      simp only [decide_eq_false_iff_not] at this
      rw [getElem!_pos es i hi1, hi2] at this
      exact this
    · rw [Lib.idxBy_hit (fun _ y => decide (y.nm = s)) es n k default h1 (by omega) h2 h3] at he
      refine .inl ⟨k, es[k]'(by omega), by omega, List.getElem?_eq_getElem _, ?_, he⟩
      refine entN_at (j := k) (fun i x hi hx => ?_) (List.getElem?_eq_getElem (by omega)) ?_
      · obtain ⟨hi1, hi2⟩ := List.getElem?_eq_some_iff.1 hx
        have := h3 i hi
        simp only [decide_eq_false_iff_not] at this
        rw [getElem!_pos es i hi1, hi2] at this
        exact this
      · simp only [decide_eq_true_eq] at h2
        rw [getElem!_pos es k (by omega)] at h2
        exact h2
end Go.Proofs.YtmdhlkkekidknaaGreatDoor

namespace Go.Proofs.YtmdhlkkekidknaaGreatDoor
open Go.RowKit Go.Shelf

theorem index_by (l : List UInt8) (c : UInt8) : Lib.index l [c] = Lib.indexByte l c := by
  induction l with
  | nil => rfl
  | cons b l ih =>
    rw [Lib.index, Lib.indexByte, ih]
    by_cases h : b = c
    · subst h; simp [List.isPrefixOf]
    · have h1 : (c == b) = false := by simpa using fun e => h e.symm
      have h2 : (b == c) = false := by simpa using h
      simp [List.isPrefixOf, h1, h2]
theorem indexByte_slash (l : List UInt8) : Lib.indexByte l 47 = if slashL l < l.length then (slashL l : Int) else -1 := by
  induction l with
  | nil => rfl
  | cons b l ih =>
    rw [Lib.indexByte, ih, slashL]
    by_cases h : b = 47
    · subst h; simp
    · have h2 : (b == 47) = false := by simpa using h
      rw [h2, if_neg h]
      by_cases h3 : slashL l < l.length
      · have h4 : ¬ ((slashL l : Int) = -1) := by omega
        simp [h3, h4]
      · simp [h3]
theorem splitK_slash : ∀ (k : Nat) (l : List UInt8), l.count 47 = k → Lib.splitK [47] 0 k l = splitS l := by
  intro k
  induction k with
  | zero =>
    intro l hl
    rw [splitS_last l (fun c hc e => by subst e; exact absurd hc (List.count_eq_zero.1 hl))]
    rfl
  | succ k ih =>
    intro l hl
    have hlt : slashL l < l.length := by
      rcases Nat.lt_or_ge (slashL l) l.length with h | h
      · exact h
      · have := slashL_pre l
        rw [List.take_of_length_le h] at this
        have h0 : l.count 47 = 0 := List.count_eq_zero.2 (fun hc => this 47 hc rfl)
        omega
    have hd := slashL_dec l hlt
    have hc : (l.drop (slashL l + 1)).count 47 = k := by
      have h1 : l.count 47 = (l.take (slashL l) ++ 47 :: l.drop (slashL l + 1)).count 47 := by rw [← hd]
      rw [List.count_append, List.count_eq_zero.2 (fun hc => slashL_pre l 47 hc rfl), List.count_cons_self] at h1
      omega
    rw [Lib.splitK, index_by, indexByte_slash, if_pos hlt, splitS_slash l, if_pos hlt]
    have h4 : ((slashL l : Int) == -1) = false := by
      have : ¬ ((slashL l : Int) = -1) := by omega
      exact beq_eq_false_iff_ne.2 this
    rw [h4]
    simp only [Bool.false_eq_true, if_false, Int.toNat_natCast, Nat.add_zero, List.length_cons, List.length_nil, Nat.zero_add]
    rw [ih _ hc]
theorem map_bl_inj : ∀ {a b : List ByteArray}, a.map (·.data.toList) = b.map (·.data.toList) → a = b
  | [], [], _ => rfl
  | [], _ :: _, h => by simp at h
  | _ :: _, [], h => by simp at h
  | x :: a, y :: b, h => by
    simp only [List.map_cons, List.cons.injEq] at h
    have e : x = y := by rw [← ub_bl x, ← ub_bl y]; exact congrArg ub h.1
    rw [e, map_bl_inj h.2]
theorem split_pieces (s : ByteArray) : Lib.splitB ⟨#[47]⟩ 0 (Lib.countB s ⟨#[47]⟩) s = (splitS (bl s)).map ub := by
  apply map_bl_inj
  rw [Lib.splitB_data, List.map_map]
  have hc : Lib.countB s ⟨#[47]⟩ = (bl s).count 47 := by
    show Lib.count s.data.toList [47] = _
    rw [Lib.count_one]; rfl
  have e : ((fun x : ByteArray => x.data.toList) ∘ ub) = id := by funext l; exact bl_ub l
  rw [e, List.map_id, hc]
  exact splitK_slash _ _ rfl
set_option maxRecDepth 100000 in
set_option maxHeartbeats 1000000 in
theorem split_any (s : ByteArray) (w : World) (hs : s.size < 4294967281) :
    Calls Tryz.prog 68 #[.string s, .string ⟨#[47]⟩] w fun e w' => ∃ A, e = .returned (.slice A (splitS (bl s)).length (splitS (bl s)).length) ∧ Sl w' w'.heap.size 1 A (splitS (bl s)).length (((splitS (bl s)).map ub).map Value.string) ∧ Below w.heap.size w w' := by
  have hle := Lib.countB_le ⟨#[47]⟩ (by decide) s.size s (Nat.le_refl _)
  have hlen := Lib.splitB_all ⟨#[47]⟩ (by decide) 0 _ s rfl
  have c := Any.strings_genSplit_core Tryz.laysGsp (by kernel_rfl) s ⟨#[47]⟩ 0 (-1) (Lib.countB s ⟨#[47]⟩ + 1) w hs (by decide) (by decide)
    (fun x c hx => (Tryz.strings_Index_one x 47 _).mono fun e w' ⟨he, hw⟩ => ⟨by rw [he, ← index_by], hw⟩)
    ((Tryz.strings_Count_one s 47 w).mono fun e w' ⟨he, hw⟩ => ⟨by
      rw [he]
      show _ = Ending.returned (Value.int .i64 ((Lib.count s.data.toList [47] : Nat) : Int))
      rw [Lib.count_one]; rfl, hw⟩)
    (by decide) (by decide) (by rw [if_pos (by decide)]; omega)
  rw [Nat.add_sub_cancel, hlen] at c
  have e2 : Lib.cellsOf (Lib.splitB ⟨#[47]⟩ 0 (Lib.countB s ⟨#[47]⟩) s) (Lib.countB s ⟨#[47]⟩ + 1) = (((splitS (bl s)).map ub).map Value.string).toArray := by rw [← split_pieces, ← hlen]; exact Lib.cellsOf_full _
  have e3 : Lib.countB s ⟨#[47]⟩ + 1 = (splitS (bl s)).length := by rw [← hlen, split_pieces, List.length_map]
  rw [e2, e3] at c
  have HC : Hid (Calls Tryz.prog 117 #[.string s, .string ⟨#[47]⟩, .int .i64 0, .int .i64 (-1)] w fun e w' => ∃ A, e = .returned (.slice A (splitS (bl s)).length (splitS (bl s)).length) ∧ Sl w' w'.heap.size 1 A (splitS (bl s)).length (((splitS (bl s)).map ub).map Value.string) ∧ Below w.heap.size w w') :=
    c.mono fun e w' ⟨he, hw⟩ => by
      subst hw
      refine ⟨_, he, ?_, (Below.refl _ w).alloc (Nat.le_refl _) _⟩
      refine ⟨by simp, fun _ => ⟨w.heap.size, 0, rfl, by simp, fun j u hu => ?_⟩⟩
      rw [Nat.zero_add, World.cell?_alloc_new]
      simpa using hu
  clear c e2 e3 hle hlen
  go_enter Tryz.func68, Tryz.ntmps68
  go_wp2_with fail
  refine HC.out.mono ?_
  rintro e w' ⟨A, rfl, hsl, hb⟩
  have HSL := Lib.hid hsl; have HB := Lib.hid hb
  clear hsl hb HC
  go_wp2_with fail
  go_ret
  exact ⟨A, rfl, HSL.out, HB.out⟩
end Go.Proofs.YtmdhlkkekidknaaGreatDoor

namespace Go.Proofs.YtmdhlkkekidknaaGreatDoor
open Go.RowKit

theorem splitS_no : ∀ {l p : List UInt8}, p ∈ splitS l → ∀ c ∈ p, c ≠ 47
  | [], p, h, c, hc => by simp [splitS] at h; subst h; simp at hc
  | d :: r, p, h, c, hc => by
    unfold splitS at h
    split at h
    · rcases List.mem_cons.1 h with rfl | h
      · simp at hc
      · exact splitS_no h c hc
    · rename_i hd
      have ih : ∀ q ∈ splitS r, ∀ c ∈ q, c ≠ 47 := fun q hq => splitS_no hq
      split at h
      · simp at h; subst h; simp at hc; subst hc; exact hd
      · rename_i a t e
        rw [e] at ih
        rcases List.mem_cons.1 h with rfl | h
        · rcases List.mem_cons.1 hc with rfl | hc
          · exact hd
          · exact ih a (List.mem_cons_self ..) c hc
        · exact ih p (List.mem_cons_of_mem _ h) c hc
theorem splitS_size : ∀ l : List UInt8, (splitS l).length ≤ l.length + 1
  | [] => Nat.le_refl _
  | d :: r => by
    have ih := splitS_size r
    unfold splitS
    split
    · simp; omega
    · split
      · simp
      · rename_i a t e
        rw [e] at ih
        simp at ih ⊢; omega
theorem sl_on' {w w' : World} {n size : Nat} {A : Option Addr} {xs : List Value} (h : Sl w w.heap.size size A n xs) (hb : Below w.heap.size w w') : Sl w' w'.heap.size size A n xs := (h.below hb (Nat.le_refl _)).more hb.size
noncomputable def gtR (p : List Itm) (d : Dig) (s : ByteArray) : ByteArray × Int := if pathB s = true then getF p (splitS (bl s)).length d s else (⟨#[]⟩, 6)
def TgE (p : List Itm) (d : Dig) (s : ByteArray) (w : World) (e : Ending) (w' : World) : Prop := e = .returned (.tuple #[.string (gtR p d s).1, .int .i64 (gtR p d s).2]) ∧ Below w.heap.size w w'
def GtI (p : List Itm) (d : Dig) (ns : List (List UInt8)) (R : ByteArray × Int) (j : Nat) : Prop := (j < ns.length ∧ getN p (ns.length - j) d (ns.drop j) = R) ∨ (j = ns.length ∧ datP p d = R)
section
variable {p : List Itm} {d : Dig} {ns : List (List UInt8)} {R : ByteArray × Int} {j : Nat}
theorem GtI.start {s : ByteArray} : GtI p d (splitS (bl s)) (getF p (splitS (bl s)).length d s) 0 := by
  refine .inl ⟨List.length_pos_iff.2 (splitS_ne _), ?_⟩
  unfold getN
  rw [List.drop_zero, Nat.sub_zero, jn_split _ _ (Nat.le_refl _), ub_bl]
theorem GtI.lt (h : GtI p d ns R j) (hj : j < ns.length) : getN p (ns.length - (j + 1) + 1) d (ns.drop j) = R := by
  rcases h with ⟨_, h⟩ | ⟨h, _⟩
  · rw [show ns.length - (j + 1) + 1 = ns.length - j by omega]; exact h
  · omega
theorem GtI.cut (hj : j < ns.length) (hns : ∀ n ∈ ns, ∀ c ∈ n, c ≠ 47) : fsN (ub (jnN (ns.drop j))) = ub (ns[j]'hj) ∧ deN (ub (jnN (ns.drop j))) = decide (j + 1 < ns.length) ∧ (j + 1 < ns.length → rsN (ub (jnN (ns.drop j))) = ub (jnN (ns.drop (j + 1)))) := by
  have hd : ns.drop j = ns[j] :: ns.drop (j + 1) := List.drop_eq_getElem_cons hj
  have hn := hns ns[j] (List.getElem_mem hj)
  by_cases h1 : j + 1 < ns.length
  · have hd1 : ns.drop (j + 1) = ns[j + 1] :: ns.drop (j + 2) := List.drop_eq_getElem_cons h1
    rw [hd, hd1]
    obtain ⟨a, b, c⟩ := cut_jn (n := ns[j]) (m := ns[j + 1]) (r := ns.drop (j + 2)) hn
    exact ⟨a, by rw [c]; simp [h1], fun _ => b⟩
  · have hd1 : ns.drop (j + 1) = [] := List.drop_of_length_le (by omega)
    rw [hd, hd1]
    obtain ⟨a, b⟩ := cut_jn1 hn
    exact ⟨a, by rw [b]; simp [h1], fun h => absurd h h1⟩
theorem GtI.no (h : GtI p d ns R j) (hj : j < ns.length) (hg : getP p d = none) : R = (⟨#[]⟩, 8) := by
  rw [← h.lt hj]; exact getF_none hg
theorem GtI.kind (h : GtI p d ns R j) (hj : j < ns.length) {o : Ob} (hg : getP p d = some o) (hk : o.kind ≠ 2) : R = (⟨#[]⟩, 9) := by
  rw [← h.lt hj]; exact getF_kind hg hk
theorem GtI.ent (h : GtI p d ns R j) (hj : j < ns.length) (hns : ∀ n ∈ ns, ∀ c ∈ n, c ≠ 47) {o : Ob} (hg : getP p d = some o) (hk : o.kind = 2) (he : entN o.ents (ub (ns[j]'hj)) = none) : R = (⟨#[]⟩, 8) := by
  rw [← h.lt hj]; exact getF_ent hg hk (by rw [(GtI.cut hj hns).1]; exact he)
theorem GtI.dir (h : GtI p d ns R j) (hj : j < ns.length) (hns : ∀ n ∈ ns, ∀ c ∈ n, c ≠ 47) {o : Ob} (hg : getP p d = some o) (hk : o.kind = 2) {x : Ent} (he : entN o.ents (ub (ns[j]'hj)) = some x) (hd : x.dir ≠ decide (j + 1 < ns.length)) : R = (⟨#[]⟩, 9) := by
  rw [← h.lt hj]; exact getF_dir hg hk (by rw [(GtI.cut hj hns).1]; exact he) (by rw [(GtI.cut hj hns).2.1]; exact hd)
theorem GtI.next (h : GtI p d ns R j) (hj : j < ns.length) (hns : ∀ n ∈ ns, ∀ c ∈ n, c ≠ 47) {o : Ob} (hg : getP p d = some o) (hk : o.kind = 2) {x : Ent} (he : entN o.ents (ub (ns[j]'hj)) = some x) (hd : x.dir = decide (j + 1 < ns.length)) : GtI p x.dg ns R (j + 1) := by
  have h0 := h.lt hj
  obtain ⟨c1, c2, c3⟩ := GtI.cut hj hns
  by_cases h1 : j + 1 < ns.length
  · refine .inl ⟨h1, ?_⟩
    rw [← h0]
    unfold getN
    rw [getF_sub hg hk (by rw [c1]; exact he) (by rw [hd]; simp [h1]) (by rw [c2]; simp [h1]), c3 h1]
  · refine .inr ⟨by omega, ?_⟩
    rw [← h0]
    unfold getN
    rw [getF_file hg hk (by rw [c1]; exact he) (by rw [hd]; simp [h1]) (by rw [c2]; simp [h1])]
theorem GtI.done (h : GtI p d ns R j) (hj : ¬ j < ns.length) : datP p d = R := by
  rcases h with ⟨h, _⟩ | ⟨_, h⟩
  · exact absurd h hj
  · exact h
end
set_option maxRecDepth 100000 in
set_option maxHeartbeats 8000000 in
theorem tget_any (A : Option Addr) (np cp B : Nat) (p : List Itm) (d : Dig) (path : ByteArray) (w : World) (h0 : Sl w B 3 A np (flat itC p)) (hB : B ≤ w.heap.size) (hn : np ≤ 1000000) (hp : PlOk p) (hps : path.size ≤ 1000000) :
    Calls Tryz.prog 29 #[.slice A np cp, digV d, .string path] w (TgE p d path w) := by
  have HP := Lib.hid hp; have H0 := Lib.hid h0
  obtain ⟨R, hR⟩ : ∃ R, gtR p d path = R := ⟨_, rfl⟩
  unfold TgE
  rw [hR]
  have HR := Lib.hid hR
  obtain ⟨d1, d2⟩ := d
  obtain ⟨W, hW⟩ : ∃ W, w.alloc (.cells #[.int .u64 d1, .int .u64 d2] 30) = W := ⟨_, rfl⟩
  have HB0 : Hid (Below w.heap.size w W) := by rw [← hW]; exact (Below.refl _ w).alloc (Nat.le_refl _) _
  have HK : Hid (Bk W w.heap.size 30 #[.int .u64 d1, .int .u64 d2]) := by rw [← hW]; exact Bk.new w _ _
  have zW : w.heap.size < W.heap.size := HK.out.lt
  have HPI := Lib.hid (isPath_any path W (by unfold maxLen; omega))
  obtain ⟨pb, hpb⟩ : ∃ pb, pathB path = pb := ⟨_, rfl⟩
  rw [hpb] at HPI
  have HPB := Lib.hid hpb
  have HW := Lib.hid hW
  simp only [digV]
  clear hp h0 hR hW hpb
  go_enter Tryz.func29, Tryz.ntmps29
  go_wp2_with fail
  rw [HW.out]
  refine HPI.out.mono ?_
  rintro e w1 ⟨rfl, hb⟩
  have HB1 : Hid (Below w.heap.size w w1) := HB0.out.trans (hb.mono HB0.out.size)
  have HK1 := Lib.hid (HK.out.below hb zW)
  have z1 : w.heap.size < w1.heap.size := HK1.out.lt
  clear hb HPI HK HB0
  cases pb with
  | false =>
    have HF : Hid (R = (⟨#[]⟩, 6)) := by show _ = _; rw [← HR.out]; unfold gtR; rw [HPB.out]; rfl
    go_wp2_with fail
    go_ret2
    exact ⟨by rw [HF.out]; rfl, HB1.out⟩
  | true =>
    have HF : Hid (getF p (splitS (bl path)).length (d1, d2) path = R) := by show _ = _; rw [← HR.out]; unfold gtR; rw [HPB.out]; rfl
    obtain ⟨x0, x1, _, _⟩ := HK1.out.two
    obtain ⟨W2, hW2⟩ : ∃ W2, w1.alloc (.cells #[.int .u64 d1, .int .u64 d2] 30) = W2 := ⟨_, rfl⟩
    have HB2 : Hid (Below w1.heap.size w1 W2) := by rw [← hW2]; exact (Below.refl _ w1).alloc (Nat.le_refl _) _
    have HK2 : Hid (Bk W2 w1.heap.size 30 #[.int .u64 d1, .int .u64 d2]) := by rw [← hW2]; exact Bk.new w1 _ _
    have HS := Lib.hid (split_any path W2 (by omega))
    have hps' : path.size ≤ 100 := path_len HPB.out
    have hns : (splitS (bl path)).length ≤ 101 := by
      have := splitS_size (bl path)
      have : (bl path).length = path.size := by simp [bl]
      omega
    have HNO : Hid (∀ n ∈ splitS (bl path), ∀ c ∈ n, c ≠ 47) := fun n hn => splitS_no hn
    have HI0 : Hid (GtI p (d1, d2) (splitS (bl path)) R 0) := by
      have := GtI.start (p := p) (d := (d1, d2)) (s := path)
      rw [HF.out] at this; exact this
    have HNE := Lib.hid (splitS_ne (bl path))
    obtain ⟨ns, hns'⟩ : ∃ ns, splitS (bl path) = ns := ⟨_, rfl⟩
    rw [hns'] at HS hns HNO HI0 HNE
    obtain ⟨m, hm⟩ : ∃ m, ns.length = m := ⟨_, rfl⟩
    have HM := Lib.hid hm
    rw [hm] at HS hns
    have HW2 := Lib.hid hW2
    clear hns' HF HR hW2 hm
    go_wp2_with fail
    rw [HW2.out]
    refine HS.out.mono ?_
    rintro e w3 ⟨A3, rfl, hsl, hb⟩
    have HSL : Hid (Sl w3 w3.heap.size 1 A3 m (strs (ns.map ub))) := hsl
    have HB3 : Hid (Below w.heap.size w w3) := HB1.out.trans ((HB2.out.trans (hb.mono HB2.out.size)).mono HB1.out.size)
    have HK3 := Lib.hid (HK2.out.below hb HK2.out.lt)
    have hm63 : m ≤ 9223372036854775807 := by omega
    clear hsl hb HS HK1 HK2 HB1 HB2 x0 x1
    go_wp2_with fail
    go_loopw [24] (fun i wr => ∃ (j : Nat) (e1 e2 : Int), i = .int .i64 (j : Int) ∧ j ≤ m ∧ Hid (GtI p (e1, e2) ns R j) ∧ Hid (Bk wr w1.heap.size 30 #[.int .u64 e1, .int .u64 e2]) ∧ Hid (Below w.heap.size w wr) ∧ Hid (Sl wr wr.heap.size 1 A3 m (strs (ns.map ub)))) (fun i _ => m - (intOf i).toNat)
    case atStart => exact ⟨0, d1, d2, rfl, Nat.zero_le _, HI0.out, HK3.out, HB3.out, HSL.out⟩
    case round =>
      obtain ⟨j, e1, e2, rfl, hjm, hI, hKj, hBj, hSj⟩ := hrel
      obtain ⟨x0, x1, _, _⟩ := hKj.out.two
      have f0 := hKj.out.free 0; have f1 := hKj.out.free 1
      by_cases hlt : j < m
      · have hltz : (j : Int) < (m : Int) := by omega
        have hjn : j < ns.length := by rw [HM.out]; exact hlt
        obtain ⟨b, off, x, rfl, hb, hx, hc⟩ := hSj.out.str_at hlt
        have HX : Hid (x = ub ns[j]) := by
          rw [List.getElem?_map, List.getElem?_eq_getElem hjn] at hx
          injection hx with hx; exact hx.symm
        obtain ⟨W4, hW4⟩ : ∃ W4, wr.alloc (.cells #[.string x] 9) = W4 := ⟨_, rfl⟩
        have HB4 : Hid (Below wr.heap.size wr W4) := by rw [← hW4]; exact (Below.refl _ wr).alloc (Nat.le_refl _) _
        have HK4 : Hid (Bk W4 wr.heap.size 9 #[.string x]) := by rw [← hW4]; exact Bk.new wr _ _
        have HBW : Hid (Below w.heap.size w W4) := hBj.out.trans (HB4.out.mono hBj.out.size)
        have zw := hBj.out.size
        have z4 : wr.heap.size < W4.heap.size := HK4.out.lt
        have HG := Lib.hid (pget_any A np cp B p (e1, e2) W4 (H0.out.below HBW.out hB) (Nat.le_trans hB HBW.out.size) hn HP.out)
        unfold GeE at HG
        simp only [digV] at HG
        have HW4 := Lib.hid hW4
        obtain ⟨y0, y1, _, _⟩ := (hKj.out.alloc (.cells #[.string x] 9)).two
        clear hW4 hx
        go_wp2_with fail
        rw [HW4.out]
        refine HG.out.mono ?_
        rintro e w4 ⟨hq, hb⟩
        have HB5 : Hid (Below w.heap.size w w4) := HBW.out.trans (hb.mono HBW.out.size)
        have HK5 := Lib.hid ((hKj.out.below HB4.out hKj.out.lt).below hb (by have := hKj.out.lt; omega))
        have HS5 : Hid (Sl w4 w4.heap.size 1 (some ⟨b, off, none⟩) m (strs (ns.map ub))) := sl_on' (sl_on' hSj.out HB4.out) hb
        have HN5 := Lib.hid (HK4.out.below hb HK4.out.lt)
        have z5 : wr.heap.size < w4.heap.size := by have := hb.size; omega
        clear hb HG HW4 y0 y1 x0 x1 f0 f1
        rcases hq with ⟨o, s, hg, ho, rfl, hm, _⟩ | ⟨hg, rfl⟩
        case inr =>
          have HF := Lib.hid (hI.out.no hjn hg)
          simp only [obV, obC, zOb, zOs]
          clear hg
          go_wp2_with fail
          go_ret2
          exact ⟨by rw [HF.out]; rfl, HB5.out.alloc HB5.out.size _⟩
        case inl =>
          obtain ⟨W5, hW5⟩ : ∃ W5, w4.alloc (.cells (obC o s) 82) = W5 := ⟨_, rfl⟩
          have HB6 : Hid (Below w4.heap.size w4 W5) := by rw [← hW5]; exact (Below.refl _ w4).alloc (Nat.le_refl _) _
          have HO6 : Hid (Bk W5 w4.heap.size 82 (obC o s)) := by rw [← hW5]; exact Bk.new w4 _ _
          have HBV : Hid (Below w.heap.size w W5) := HB5.out.trans (HB6.out.mono HB5.out.size)
          have HE6 : Hid (Sl W5 W5.heap.size 4 s.eA s.en (flat enC o.ents)) := (hm.e.below HB6.out (Nat.le_refl _)).more HB6.out.size
          have HK6 := Lib.hid (HK5.out.below HB6.out HK5.out.lt)
          have HS6 := Lib.hid (sl_on' HS5.out HB6.out)
          have HN6 := Lib.hid (HN5.out.below HB6.out HN5.out.lt)
          have hlen : s.en ≤ 9223372036854775807 := by have := Nat.le_trans hm.ele hm.emx; unfold maxLen at this; exact this
          have HEL := Lib.hid hm.elen
          have z6 : w4.heap.size < W5.heap.size := HO6.out.lt
          have HW5 := Lib.hid hW5
          obtain ⟨q0, q1, q2, q3, q4, q5, q6, q7, q8⟩ := (show Bk W5 w4.heap.size 82 #[.int .i64 o.kind, .string o.data, .slice s.eA s.en s.ec, .int .u64 o.tree.1, .int .u64 o.tree.2, .slice s.pA s.pn s.pc, .string o.auth, .int .i64 o.time, .string o.msg] from HO6.out).nine
          rw [← hW5] at q0 q1 q2 q3 q4 q5 q6 q7 q8
          simp only [obC] at q0 q1 q2 q3 q4 q5 q6 q7 q8 HW5
          simp only [obV, obC]
          clear hm hW5
          by_cases hk : o.kind = 2
          case neg =>
            have HF := Lib.hid (hI.out.kind hjn hg hk)
            have t1 : (o.kind != 2) = true := by rw [bne_iff_ne]; exact hk
            clear hk hg
            go_wp2_with fail
            rw [HW5.out]
            go_ret2
            exact ⟨by rw [HF.out]; rfl, HBV.out⟩
          case pos =>
            have t1 : (o.kind != 2) = false := by rw [hk]; rfl
            have HIX := Lib.hid (ixe_any s.eA s.en s.ec wr.heap.size o.ents x W5 HE6.out HN6.out hlen)
            have HG := Lib.hid hg; have HKD := Lib.hid hk
            unfold IxE at HIX
            clear hk hg
            go_wp2_with fail
            rw [HW5.out]
            refine HIX.out.mono ?_
            rintro e w6 ⟨hq, hb⟩
            have HB7 : Hid (Below w.heap.size w w6) := HBV.out.trans (hb.mono HBV.out.size)
            have HO7 := Lib.hid (HO6.out.below hb HO6.out.lt)
            have HK7 := Lib.hid (HK6.out.below hb HK6.out.lt)
            have HS7 := Lib.hid (sl_on' HS6.out hb)
            have HE7 := Lib.hid (sl_on' HE6.out hb)
            clear hb HIX q0 q1 q2 q3 q4 q5 q6 q7 q8 HO6 HK6 HS6 HE6 HN6 HW5
            obtain ⟨q0, q1, q2, q3, q4, q5, q6, q7, q8⟩ := (show Bk w6 w4.heap.size 82 #[.int .i64 o.kind, .string o.data, .slice s.eA s.en s.ec, .int .u64 o.tree.1, .int .u64 o.tree.2, .slice s.pA s.pn s.pc, .string o.auth, .int .i64 o.time, .string o.msg] from HO7.out).nine
            obtain ⟨y0, y1, _, _⟩ := HK7.out.two
            have g0 := HK7.out.free 0; have g1 := HK7.out.free 1
            rcases hq with ⟨i, en, hi, hei, hent, rfl⟩ | ⟨hent, rfl⟩
            case inr =>
              have HF := Lib.hid (hI.out.ent hjn HNO.out HG.out HKD.out (by rw [← HX.out]; exact hent))
              clear hent
              go_wp2_with fail
              go_ret2
              exact ⟨by rw [HF.out]; rfl, HB7.out⟩
            case inl =>
              rw [HEL.out] at hi
              obtain ⟨b2, off2, en', hA2, hb2, hx2, c0, c1, c2, c3⟩ := HE7.out.en hi
              rw [hei] at hx2
              injection hx2 with hx2
              subst hx2
              obtain ⟨nm, dir, n1, n2⟩ := en
              have HENT : Hid (entN o.ents (ub ns[j]) = some ⟨nm, dir, n1, n2⟩) := by show _ = _; rw [← HX.out]; exact hent
              simp only at c0 c1 c2 c3
              have hi0 : ¬ ((i : Int) < 0) := by omega
              have hm1 : IntKind.i64.wrap ((m : Int) - 1) = (m : Int) - 1 := by rw [IntKind.wrap_i64]; omega
              have hw1 : IntKind.i64.wrap ((j : Int) + 1) = (j : Int) + 1 := by rw [IntKind.wrap_i64]; omega
              have hsen : s.eA = some ⟨b2, off2, none⟩ := hA2
              clear hent hei hA2
              rw [hsen] at q2
              have HSE : Hid (Sl ((w6.setCell ⟨w1.heap.size, 0, none⟩ (.int .u64 n1)).setCell ⟨w1.heap.size, 1, none⟩ (.int .u64 n2)) ((w6.setCell ⟨w1.heap.size, 0, none⟩ (.int .u64 n1)).setCell ⟨w1.heap.size, 1, none⟩ (.int .u64 n2)).heap.size 1 (some ⟨b, off, none⟩) m (strs (ns.map ub))) := by
                have h1 := HS7.out.ne (b := w1.heap.size) (w' := (w6.setCell ⟨w1.heap.size, 0, none⟩ (.int .u64 n1)).setCell ⟨w1.heap.size, 1, none⟩ (.int .u64 n2)) (fun a ha0 ha hab => by
                    obtain ⟨b', off', x', e', _, _, hc'⟩ := HS7.out.str_at ha0
                    rw [ha] at e'
                    injection e' with e'
                    subst e'
                    simp only at hab
                    subst hab
                    rw [HK7.out.cell] at hc'
                    rcases off' with _ | _ | off'
                    · simp at hc'
                    · simp at hc'
                    · simp at hc') (fun k hk => (Below.heap_setCell _ _ _ k hk).trans (Below.heap_setCell _ _ _ k hk))
                exact Lib.hid (by simpa using h1)
              by_cases hl : j + 1 < m
              · have hl1 : ((j : Int) == (m : Int) - 1) = false := beq_eq_false_iff_ne.2 (by omega)
                cases dir with
                | false =>
                  have HF := Lib.hid (hI.out.dir hjn HNO.out HG.out HKD.out HENT.out (by rw [HM.out]; simp [hl]))
                  go_wp2_with fail
                  go_ret2
                  exact ⟨by rw [HF.out]; rfl, HB7.out⟩
                | true =>
                  have HF := Lib.hid (hI.out.next hjn HNO.out HG.out HKD.out HENT.out (by rw [HM.out]; simp [hl]))
                  go_wp2_with fail
                  refine ⟨⟨j + 1, n1, n2, by go_num, hlt, HF.out, HK7.out.set2 _ _, below_set2 HB7.out (by omega) _ _, HSE.out⟩, ?_⟩
                  simp [intOf]; omega
              · have hl1 : ((j : Int) == (m : Int) - 1) = true := beq_iff_eq.2 (by omega)
                cases dir with
                | true =>
                  have HF := Lib.hid (hI.out.dir hjn HNO.out HG.out HKD.out HENT.out (by rw [HM.out]; simp [hl]))
                  go_wp2_with fail
                  go_ret2
                  exact ⟨by rw [HF.out]; rfl, HB7.out⟩
                | false =>
                  have HF := Lib.hid (hI.out.next hjn HNO.out HG.out HKD.out HENT.out (by rw [HM.out]; simp [hl]))
                  go_wp2_with fail
                  refine ⟨⟨j + 1, n1, n2, by go_num, hlt, HF.out, HK7.out.set2 _ _, below_set2 HB7.out (by omega) _ _, HSE.out⟩, ?_⟩
                  simp [intOf]; omega
      · have hltz : ¬ (j : Int) < (m : Int) := by omega
        have HD := Lib.hid (hI.out.done (by rw [HM.out]; exact hlt))
        have HC := Lib.hid (tdata_any A np cp B p (e1, e2) wr (H0.out.below hBj.out hB) (Nat.le_trans hB hBj.out.size) hn HP.out)
        unfold DatE at HC
        simp only [digV] at HC
        go_wp2_with fail
        refine HC.out.mono ?_
        rintro e w4 ⟨rfl, hb⟩
        have HBE : Hid (Below w.heap.size w w4) := hBj.out.trans (hb.mono hBj.out.size)
        clear hb HC
        go_wp2_with fail
        go_ret2
        exact ⟨by rw [HD.out]; rfl, HBE.out⟩
end Go.Proofs.YtmdhlkkekidknaaGreatDoor
