/-
  Lemmas: TreeEdits: the law.
-/
import Derived.Test.YtmdhlkkekidknaaGreatDoorV16

namespace Go.Proofs.YtmdhlkkekidknaaGreatDoor
open Go.RowKit

set_option maxRecDepth 100000 in
set_option maxHeartbeats 32000000 in
theorem lawEdi9_any (A1 : Option Addr) (n1 c1 : Nat) (ps : List Itm) (r0 : Dig) (path data : ByteArray) (w : World) (h1 : Sl w w.heap.size 3 A1 n1 (flat itC ps)) (k1 : n1 ≤ c1) (k2 : c1 ≤ maxLen) (s1 : ∀ i ∈ ps, i.2.size ≤ maxLen) (hp : path.size ≤ maxLen) (hd : data.size ≤ maxLen) :
    Calls Tryz.prog 6 #[.slice A1 n1 c1, digV r0, .string path, .string data] w (LawE w) := by
  have H1 := Lib.hid h1
  have HAW := Lib.hid awake_any
  unfold LawE at HAW ⊢
  have awk : Hid (∀ W, Below w.heap.size w W → Calls Tryz.prog 14 #[] W fun e w' => e = .returned (.bool true) ∧ Below w.heap.size w w') := fun W hW => (HAW.out W).mono fun e w' ⟨h1, h2⟩ => ⟨h1, hW.trans (h2.mono hW.size)⟩
  have HB : Hid (Below w.heap.size w w) := Below.refl _ _
  have HK1 := Lib.hid k1; have HK2 := Lib.hid k2; have HS1 := Lib.hid s1
  have hp' : path.size ≤ 9223372036854775807 := by unfold maxLen at hp; exact hp
  have hd' : data.size ≤ 9223372036854775807 := by unfold maxLen at hd; exact hd
  clear h1 s1 k1 k2 hp hd
  obtain ⟨r1, r2⟩ := r0
  simp only [digV]
  obtain ⟨W0, hW0⟩ : ∃ W, w.alloc (.cells #[.int .u64 r1, .int .u64 r2] 30) = W := ⟨_, rfl⟩
  have hb : Below w.heap.size w W0 := by rw [← hW0]; exact (Below.refl _ w).alloc (Nat.le_refl _) _
  have HR : Hid (Bk W0 w.heap.size 30 #[.int .u64 r1, .int .u64 r2]) := by rw [← hW0]; exact Bk.new w _ _
  replace HB : Hid (Below w.heap.size w W0) := HB.out.trans (hb.mono HB.out.size)
  replace H1 := Lib.hid (sl_on H1.out hb)
  clear hb
  have HW0 := Lib.hid hW0
  clear hW0
  have HV := Lib.hid (valid9_any A1 n1 c1 ps W0 H1.out (Nat.le_trans HK1.out HK2.out) HS1.out)
  unfold Vl9End at HV
  go_enter Tryz.func6, Tryz.ntmps6
  go_wp2_with fail
  rw [HW0.out]
  refine HV.out.mono ?_
  rintro e w1 ⟨r, rfl, hr, hb⟩
  have HVV := Lib.hid hr
  replace HB : Hid (Below w.heap.size w w1) := HB.out.trans (hb.mono HB.out.size)
  replace H1 := Lib.hid (sl_on H1.out hb)
  replace HR := Lib.hid (HR.out.below hb HR.out.lt)
  clear hb
  clear hr HV HW0
  cases r with
  | false =>
    clear HVV
    go_wp2_with fail
    refine (awk.out _ (HB.out)).mono ?_
    rintro e wz ⟨rfl, hb⟩
    have HBZ := Lib.hid hb; clear hb
    go_wp2_with fail
    go_ret
    exact ⟨rfl, HBZ.out⟩
  | true =>
    by_cases hp2 : (200 : Int) < (path.size : Int)
    · clear HVV
      go_wp2_with fail
      refine (awk.out _ (HB.out)).mono ?_
      rintro e wz ⟨rfl, hb⟩
      have HBZ := Lib.hid hb; clear hb
      go_wp2_with fail
      go_ret
      exact ⟨rfl, HBZ.out⟩
    by_cases hd2 : (200 : Int) < (data.size : Int)
    · clear HVV
      go_wp2_with fail
      refine (awk.out _ (HB.out)).mono ?_
      rintro e wz ⟨rfl, hb⟩
      have HBZ := Lib.hid hb; clear hb
      go_wp2_with fail
      go_ret
      exact ⟨rfl, HBZ.out⟩
    obtain ⟨hn1, hsz, hpl⟩ := HVV.out rfl
    have HPL := Lib.hid hpl
    have HSZ : Hid (∀ i ∈ ps, i.2.size ≤ 60000) := fun i hi => Nat.le_trans (hsz i hi) (by omega)
    clear hsz hpl HVV
    have HC := Lib.hid (tset_any A1 n1 c1 w1.heap.size ps (r1, r2) path data w1 H1.out (Nat.le_refl _) HK1.out HK2.out (by omega) HPL.out HSZ.out (by omega) (by omega))
    simp only [digV] at HC
    obtain ⟨u0, u1, _, _⟩ := HR.out.two
    go_wp2_with fail
    refine HC.out.mono ?_
    rintro e w2 hst
    obtain ⟨⟨q, ⟨d1, d2⟩, err, A3, c3, hv, rfl, hsl, hql⟩, hb⟩ := edt_oneV hst
    have HSV := Lib.hid hv; have HQ := Lib.hid hsl; have HQL := Lib.hid hql
    replace HB : Hid (Below w.heap.size w w2) := HB.out.trans (hb.mono HB.out.size)
    replace H1 := Lib.hid (sl_on H1.out hb)
    replace HR := Lib.hid (HR.out.below hb HR.out.lt)
    clear hb
    have HWK : Hid (w.heap.size < w2.heap.size) := HR.out.lt
    clear HC hv hsl hql u0 u1
    simp only [digV]
    obtain ⟨W3, hW3⟩ : ∃ W, w2.alloc (.cells #[.int .u64 d1, .int .u64 d2] 30) = W := ⟨_, rfl⟩
    have hb : Below w2.heap.size w2 W3 := by rw [← hW3]; exact (Below.refl _ w2).alloc (Nat.le_refl _) _
    have HK : Hid (Bk W3 w2.heap.size 30 #[.int .u64 d1, .int .u64 d2]) := by rw [← hW3]; exact Bk.new w2 _ _
    replace HB : Hid (Below w.heap.size w W3) := HB.out.trans (hb.mono HB.out.size)
    replace H1 := Lib.hid (sl_on H1.out hb)
    replace HR := Lib.hid (HR.out.below hb HR.out.lt)
    replace HQ := Lib.hid (sl_on HQ.out hb)
    clear hb
    have HW3 := Lib.hid hW3
    clear hW3
    have HC := Lib.hid (rset9_any A1 n1 c1 W3.heap.size ps (r1, r2) path data W3 H1.out (Nat.le_refl _) HK1.out HK2.out (by omega) HPL.out HSZ.out (by omega) (by omega))
    simp only [digV] at HC
    obtain ⟨u0, u1, _, _⟩ := HR.out.two
    rw [← HW3.out] at u0 u1
    go_wp2_with fail
    rw [HW3.out]
    refine HC.out.mono ?_
    rintro e w4 hst
    obtain ⟨⟨q', ⟨e1, e2⟩, err', A5, c5, hv, rfl, hsl, _⟩, hb⟩ := edt_oneV hst
    obtain ⟨rfl, hde, rfl⟩ := HSV.out.uniq hv
    injection hde with hd1 hd2'
    subst hd1; subst hd2'
    have HQ2 := Lib.hid hsl
    replace HB : Hid (Below w.heap.size w w4) := HB.out.trans (hb.mono HB.out.size)
    replace H1 := Lib.hid (sl_on H1.out hb)
    replace HR := Lib.hid (HR.out.below hb HR.out.lt)
    replace HQ := Lib.hid (sl_on HQ.out hb)
    replace HK := Lib.hid (HK.out.below hb HK.out.lt)
    clear hb
    have HKX : Hid (w2.heap.size < w4.heap.size) := HK.out.lt
    clear HC hv hsl HW3 u0 u1
    simp only [digV]
    obtain ⟨W5, hW5⟩ : ∃ W, w4.alloc (.cells #[.int .u64 d1, .int .u64 d2] 30) = W := ⟨_, rfl⟩
    have hb : Below w4.heap.size w4 W5 := by rw [← hW5]; exact (Below.refl _ w4).alloc (Nat.le_refl _) _
    have HX : Hid (Bk W5 w4.heap.size 30 #[.int .u64 d1, .int .u64 d2]) := by rw [← hW5]; exact Bk.new w4 _ _
    replace HB : Hid (Below w.heap.size w W5) := HB.out.trans (hb.mono HB.out.size)
    replace H1 := Lib.hid (sl_on H1.out hb)
    replace HR := Lib.hid (HR.out.below hb HR.out.lt)
    replace HQ := Lib.hid (sl_on HQ.out hb)
    replace HQ2 := Lib.hid (sl_on HQ2.out hb)
    replace HK := Lib.hid (HK.out.below hb HK.out.lt)
    clear hb
    have HW5 := Lib.hid hW5
    clear hW5
    have HC := Lib.hid (samep_any A3 A5 q.length c3 q.length c5 W5.heap.size q q W5 HQ.out HQ2.out HQL.out)
    rw [decide_eq_true rfl] at HC
    go_wp2_with fail
    rw [HW5.out]
    refine HC.out.mono ?_
    rintro e w6 ⟨rfl, hb⟩
    replace HB : Hid (Below w.heap.size w w6) := HB.out.trans (hb.mono HB.out.size)
    replace H1 := Lib.hid (sl_on H1.out hb)
    replace HR := Lib.hid (HR.out.below hb HR.out.lt)
    replace HK := Lib.hid (HK.out.below hb HK.out.lt)
    replace HX := Lib.hid (HX.out.below hb HX.out.lt)
    clear hb
    clear HC HW5 HQ HQ2
    obtain ⟨x0, x1, _, _⟩ := HK.out.two
    obtain ⟨y0, y1, _, _⟩ := HX.out.two
    obtain ⟨u0, u1, _, _⟩ := HR.out.two
    have hdd : (d1 == d1 && d2 == d2) = true := by simp
    have hdn : (d1 != d1 || d2 != d2) = false := by simp
    have hee : (err == err) = true := by simp
    have hen : (err != err) = false := by simp
    have HC := Lib.hid (trem_any A1 n1 c1 w6.heap.size ps (r1, r2) path w6 H1.out (Nat.le_refl _) HK1.out HK2.out (by omega) HPL.out HSZ.out (by omega))
    simp only [digV] at HC
    clear HSV HQL
    go_wp2_with fail
    refine HC.out.mono ?_
    rintro e w7 hst
    obtain ⟨⟨q, ⟨f1, f2⟩, er2, A6, c6, hv, rfl, hsl, hql⟩, hb⟩ := edt_oneV hst
    have HSV := Lib.hid hv; have HQ := Lib.hid hsl; have HQL := Lib.hid hql
    replace HB : Hid (Below w.heap.size w w7) := HB.out.trans (hb.mono HB.out.size)
    replace H1 := Lib.hid (sl_on H1.out hb)
    replace HR := Lib.hid (HR.out.below hb HR.out.lt)
    replace HK := Lib.hid (HK.out.below hb HK.out.lt)
    replace HX := Lib.hid (HX.out.below hb HX.out.lt)
    clear hb
    clear HC hv hsl hql u0 u1 x0 x1 y0 y1 hdd hdn hee hen
    simp only [digV]
    obtain ⟨x0, x1, _, _⟩ := HK.out.two
    have g0 := HK.out.free 0; have g1 := HK.out.free 1
    have hKX : w2.heap.size ≠ w4.heap.size := by have := HKX.out; omega
    have hRK : w.heap.size < w2.heap.size := HWK.out
    have zR := HR.out.lt; have zX := HX.out.lt
    obtain ⟨W8, hW8⟩ : ∃ W, (w7.setCell ⟨w2.heap.size, 0, none⟩ (.int .u64 f1)).setCell ⟨w2.heap.size, 1, none⟩ (.int .u64 f2) = W := ⟨_, rfl⟩
    replace HB : Hid (Below w.heap.size w W8) := by rw [← hW8]; exact below_set2 HB.out (Nat.le_of_lt HWK.out) _ _
    replace HQ : Hid (Sl W8 W8.heap.size 3 A6 q.length (flat itC q)) := by rw [← hW8]; exact HQ.out.dg2 HK.out _ _
    replace H1 : Hid (Sl W8 W8.heap.size 3 A1 n1 (flat itC ps)) := by rw [← hW8]; exact H1.out.dg2 HK.out _ _
    replace HR : Hid (Bk W8 w.heap.size 30 #[.int .u64 r1, .int .u64 r2]) := by rw [← hW8]; exact (HR.out.far (p := ⟨w2.heap.size, 0, none⟩) (by show w.heap.size ≠ w2.heap.size; omega) _).far (p := ⟨w2.heap.size, 1, none⟩) (by show w.heap.size ≠ w2.heap.size; omega) _
    replace HX : Hid (Bk W8 w4.heap.size 30 #[.int .u64 d1, .int .u64 d2]) := by rw [← hW8]; exact (HX.out.far (p := ⟨w2.heap.size, 0, none⟩) (by show w4.heap.size ≠ w2.heap.size; omega) _).far (p := ⟨w2.heap.size, 1, none⟩) (by show w4.heap.size ≠ w2.heap.size; omega) _
    replace HK : Hid (Bk W8 w2.heap.size 30 #[.int .u64 f1, .int .u64 f2]) := by rw [← hW8]; exact HK.out.set2 _ _
    have HC := Lib.hid (rrem9_any A1 n1 c1 W8.heap.size ps (r1, r2) path W8 H1.out (Nat.le_refl _) HK1.out HK2.out (by omega) HPL.out HSZ.out (by omega))
    simp only [digV] at HC
    obtain ⟨u0, u1, _, _⟩ := HR.out.two
    go_wp2_with fail
    refine HC.out.mono ?_
    rintro e w9 hst
    obtain ⟨⟨q', ⟨e1, e2⟩, er3, A7, c7, hv, rfl, hsl, _⟩, hb⟩ := edt_oneV hst
    obtain ⟨rfl, hde, rfl⟩ := HSV.out.uniq hv
    injection hde with hd1 hd2'
    subst hd1; subst hd2'
    have HQ2 := Lib.hid hsl
    replace HB : Hid (Below w.heap.size w w9) := HB.out.trans (hb.mono HB.out.size)
    replace HQ := Lib.hid (sl_on HQ.out hb)
    replace HK := Lib.hid (HK.out.below hb HK.out.lt)
    replace HX := Lib.hid (HX.out.below hb HX.out.lt)
    clear hb
    clear HC hv hsl hW8 u0 u1 x0 x1 g0 g1 H1 HR
    simp only [digV]
    obtain ⟨x0, x1, _, _⟩ := HX.out.two
    have g0 := HX.out.free 0; have g1 := HX.out.free 1
    obtain ⟨W10, hW10⟩ : ∃ W, (w9.setCell ⟨w4.heap.size, 0, none⟩ (.int .u64 f1)).setCell ⟨w4.heap.size, 1, none⟩ (.int .u64 f2) = W := ⟨_, rfl⟩
    replace HB : Hid (Below w.heap.size w W10) := by rw [← hW10]; exact below_set2 HB.out (Nat.le_trans (Nat.le_of_lt HWK.out) (Nat.le_of_lt HKX.out)) _ _
    replace HQ : Hid (Sl W10 W10.heap.size 3 A6 q.length (flat itC q)) := by rw [← hW10]; exact HQ.out.dg2 HX.out _ _
    replace HQ2 : Hid (Sl W10 W10.heap.size 3 A7 q.length (flat itC q)) := by rw [← hW10]; exact HQ2.out.dg2 HX.out _ _
    replace HK : Hid (Bk W10 w2.heap.size 30 #[.int .u64 f1, .int .u64 f2]) := by rw [← hW10]; exact (HK.out.far (p := ⟨w4.heap.size, 0, none⟩) (by show w2.heap.size ≠ w4.heap.size; omega) _).far (p := ⟨w4.heap.size, 1, none⟩) (by show w2.heap.size ≠ w4.heap.size; omega) _
    replace HX : Hid (Bk W10 w4.heap.size 30 #[.int .u64 f1, .int .u64 f2]) := by rw [← hW10]; exact HX.out.set2 _ _
    have HC := Lib.hid (samep_any A6 A7 q.length c6 q.length c7 W10.heap.size q q W10 HQ.out HQ2.out HQL.out)
    rw [decide_eq_true rfl] at HC
    go_wp2_with fail
    refine HC.out.mono ?_
    rintro e w11 ⟨rfl, hb⟩
    replace HB : Hid (Below w.heap.size w w11) := HB.out.trans (hb.mono HB.out.size)
    replace HK := Lib.hid (HK.out.below hb HK.out.lt)
    replace HX := Lib.hid (HX.out.below hb HX.out.lt)
    clear hb
    clear HC hW10 HQ HQ2 x0 x1 g0 g1
    obtain ⟨x0, x1, _, _⟩ := HK.out.two
    obtain ⟨y0, y1, _, _⟩ := HX.out.two
    have hdd : (f1 == f1 && f2 == f2) = true := by simp
    have hee : (er2 == er2) = true := by simp
    go_wp2_with fail
    refine (awk.out _ (HB.out)).mono ?_
    rintro e wz ⟨rfl, hb⟩
    have HBZ := Lib.hid hb; clear hb
    go_wp2_with fail
    go_ret
    exact ⟨rfl, HBZ.out⟩
end Go.Proofs.YtmdhlkkekidknaaGreatDoor
