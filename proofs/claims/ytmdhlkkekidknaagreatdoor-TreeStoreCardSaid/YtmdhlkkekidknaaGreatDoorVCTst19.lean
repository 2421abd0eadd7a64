/-
  Lemmas: TreeStore: the law.
-/
import Derived.Test.YtmdhlkkekidknaaGreatDoorV16

namespace Go.Proofs.YtmdhlkkekidknaaGreatDoor
open Go.RowKit

set_option maxRecDepth 100000 in
set_option maxHeartbeats 32000000 in
theorem lawSto9_any (A1 A2 : Option Addr) (n1 c1 n2 c2 : Nat) (ps : List Itm) (fs : List Fl) (w : World) (h1 : Sl w w.heap.size 3 A1 n1 (flat itC ps)) (h2 : Sl w w.heap.size 2 A2 n2 (flat flC fs)) (k1 : n1 ≤ c1) (k2 : c1 ≤ maxLen) (m2 : n2 ≤ maxLen) (s1 : ∀ i ∈ ps, i.2.size ≤ maxLen) (s2 : ∀ f ∈ fs, f.1.size ≤ maxLen ∧ f.2.size ≤ maxLen) :
    Calls Tryz.prog 3 #[.slice A1 n1 c1, .slice A2 n2 c2] w (LawE w) := by
  have H1 := Lib.hid h1; have H2 := Lib.hid h2
  have HAW := Lib.hid awake_any
  unfold LawE at HAW ⊢
  have awk : Hid (∀ W, Below w.heap.size w W → Calls Tryz.prog 14 #[] W fun e w' => e = .returned (.bool true) ∧ Below w.heap.size w w') := fun W hW => (HAW.out W).mono fun e w' ⟨h1, h2⟩ => ⟨h1, hW.trans (h2.mono hW.size)⟩
  have HB : Hid (Below w.heap.size w w) := Below.refl _ _
  have HK1 := Lib.hid k1; have HK2 := Lib.hid k2; have HS2 := Lib.hid s2
  have HV := Lib.hid (valid9_any A1 n1 c1 ps w h1 (Nat.le_trans k1 k2) s1)
  unfold Vl9End at HV
  clear h1 h2 s1 s2 k1 k2
  go_enter Tryz.func3, Tryz.ntmps3
  go_wp2_with fail
  refine HV.out.mono ?_
  rintro e w1 ⟨r, rfl, hr, hb⟩
  have HVV := Lib.hid hr
  replace HB : Hid (Below w.heap.size w w1) := HB.out.trans (hb.mono HB.out.size)
  replace H1 := Lib.hid (sl_on H1.out hb)
  replace H2 := Lib.hid (sl_on H2.out hb)
  clear hb
  clear hr HV
  cases r with
  | false =>
    clear HVV
    go_wp2_with fail
    refine (awk.out _ (HB.out)).mono ?_
    rintro e wz ⟨rfl, hb⟩
    have HBZ := Lib.hid hb; clear hb
    go_wp2_with fail
    go_ret
    exact ⟨rfl, HBZ.out⟩
  | true =>
    obtain ⟨hn1, hsz, hpl⟩ := HVV.out rfl
    have HPL := Lib.hid hpl
    have HG := Lib.hid (great9_any A2 n2 c2 w1.heap.size fs w1 H2.out m2 HS2.out)
    unfold Gr9End at HG
    clear hsz hpl HVV
    go_wp2_with fail
    refine HG.out.mono ?_
    rintro e w1' ⟨r, rfl, hr, rfl⟩
    have HGR := Lib.hid hr
    clear hr HG
    cases r with
    | true =>
      clear HGR
      go_wp2_with fail
      refine (awk.out _ (HB.out)).mono ?_
      rintro e wz ⟨rfl, hb⟩
      have HBZ := Lib.hid hb; clear hb
      go_wp2_with fail
      go_ret
      exact ⟨rfl, HBZ.out⟩
    | false =>
      obtain ⟨hn2, hf2⟩ := HGR.out rfl
      have HF2 := Lib.hid hf2
      have HFS : Hid (∀ f ∈ fs, f.1.size ≤ 1000000 ∧ f.2.size ≤ 60000) := fun f hf => ⟨by have := (HF2.out f hf).1; omega, by have := (HF2.out f hf).2; omega⟩
      clear hf2 HGR
      have HST := Lib.hid (tstore_any A1 n1 c1 w1.heap.size ps A2 n2 c2 fs w1 H1.out H2.out (Nat.le_refl _) HK1.out HK2.out (by omega) (by omega) HPL.out HFS.out)
      go_wp2_with fail
      refine HST.out.mono ?_
      rintro e w2 hst
      obtain ⟨⟨q, ⟨d1, d2⟩, err, A3, c3, hv, rfl, hsl, hql⟩, hb⟩ := str_oneV hst
      have HSV := Lib.hid hv; have HQ := Lib.hid hsl; have HQL := Lib.hid hql
      replace HB : Hid (Below w.heap.size w w2) := HB.out.trans (hb.mono HB.out.size)
      replace H1 := Lib.hid (sl_on H1.out hb)
      replace H2 := Lib.hid (sl_on H2.out hb)
      clear hb
      clear HST hv hsl hql
      simp only [digV]
      obtain ⟨W3, hW3⟩ : ∃ W, w2.alloc (.cells #[.int .u64 d1, .int .u64 d2] 30) = W := ⟨_, rfl⟩
      have hb : Below w2.heap.size w2 W3 := by rw [← hW3]; exact (Below.refl _ w2).alloc (Nat.le_refl _) _
      have HK : Hid (Bk W3 w2.heap.size 30 #[.int .u64 d1, .int .u64 d2]) := by rw [← hW3]; exact Bk.new w2 _ _
      replace HB : Hid (Below w.heap.size w W3) := HB.out.trans (hb.mono HB.out.size)
      replace H1 := Lib.hid (sl_on H1.out hb)
      replace H2 := Lib.hid (sl_on H2.out hb)
      replace HQ := Lib.hid (sl_on HQ.out hb)
      clear hb
      have HW3 := Lib.hid hW3
      clear hW3
      have HST := Lib.hid (rstore9_any A1 n1 c1 W3.heap.size ps A2 n2 c2 fs W3 H1.out H2.out (Nat.le_refl _) HK1.out HK2.out (by omega) (by omega) HPL.out HFS.out)
      go_wp2_with fail
      rw [HW3.out]
      refine HST.out.mono ?_
      rintro e w4 hst
      obtain ⟨⟨q', ⟨e1, e2⟩, err', A5, c5, hv, rfl, hsl, _⟩, hb⟩ := str_oneV hst
      obtain ⟨rfl, hde, rfl⟩ := HSV.out.uniq hv
      injection hde with hd1 hd2
      subst hd1; subst hd2
      have HQ2 := Lib.hid hsl
      replace HB : Hid (Below w.heap.size w w4) := HB.out.trans (hb.mono HB.out.size)
      replace HQ := Lib.hid (sl_on HQ.out hb)
      replace HK := Lib.hid (HK.out.below hb HK.out.lt)
      clear hb
      clear HST hv hsl HW3 H1 H2
      simp only [digV]
      obtain ⟨W5, hW5⟩ : ∃ W, w4.alloc (.cells #[.int .u64 d1, .int .u64 d2] 30) = W := ⟨_, rfl⟩
      have hb : Below w4.heap.size w4 W5 := by rw [← hW5]; exact (Below.refl _ w4).alloc (Nat.le_refl _) _
      have HX : Hid (Bk W5 w4.heap.size 30 #[.int .u64 d1, .int .u64 d2]) := by rw [← hW5]; exact Bk.new w4 _ _
      replace HB : Hid (Below w.heap.size w W5) := HB.out.trans (hb.mono HB.out.size)
      replace HQ := Lib.hid (sl_on HQ.out hb)
      replace HQ2 := Lib.hid (sl_on HQ2.out hb)
      replace HK := Lib.hid (HK.out.below hb HK.out.lt)
      clear hb
      have HW5 := Lib.hid hW5
      clear hW5
      have HC := Lib.hid (samep_any A3 A5 q.length c3 q.length c5 W5.heap.size q q W5 HQ.out HQ2.out HQL.out)
      rw [decide_eq_true rfl] at HC
      go_wp2_with fail
      rw [HW5.out]
      refine HC.out.mono ?_
      rintro e w6 ⟨rfl, hb⟩
      replace HB : Hid (Below w.heap.size w w6) := HB.out.trans (hb.mono HB.out.size)
      replace HK := Lib.hid (HK.out.below hb HK.out.lt)
      replace HX := Lib.hid (HX.out.below hb HX.out.lt)
      clear hb
      clear HC HW5 HQ HQ2
      obtain ⟨x0, x1, _, _⟩ := HK.out.two
      obtain ⟨y0, y1, _, _⟩ := HX.out.two
      have hdd : (d1 == d1 && d2 == d2) = true := by simp
      have hdn : (d1 != d1 || d2 != d2) = false := by simp
      have hee : (err == err) = true := by simp
      have hen : (err != err) = false := by simp
      go_wp2_with fail
      refine (awk.out _ (HB.out)).mono ?_
      rintro e wz ⟨rfl, hb⟩
      have HBZ := Lib.hid hb; clear hb
      go_wp2_with fail
      go_ret
      exact ⟨rfl, HBZ.out⟩
end Go.Proofs.YtmdhlkkekidknaaGreatDoor
