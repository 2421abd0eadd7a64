/-
  Lemmas of the card.
-/
import Derived.RegionIn
import Derived.Test.YtlcecobipgmafaaGreatDoorNCNd17
import Derived.Test.YtlcecobipgmafaaGreatDoorNCNd12
import Derived.Test.YtlcecobipgmafaaGreatDoorNCNd14
import Derived.Test.YtlcecobipgmafaaGreatDoorNCNd1
import Derived.Test.YtlcecobipgmafaaGreatDoorNCNd3
import Derived.Test.YtlcecobipgmafaaGreatDoorNCNd7
import Derived.Test.YtlcecobipgmafaaGreatDoorNCNd4
import Derived.Test.YtlcecobipgmafaaGreatDoorNCNd10
import Derived.Test.YtlcecobipgmafaaGreatDoorNCNd5
import Derived.Test.YtlcecobipgmafaaGreatDoorNCNd9
set_option maxRecDepth 100000
set_option maxHeartbeats 32000000
namespace Go.Proofs.YtlcecobipgmafaaGreatDoor
open Go.RowKit
section
open Go.Maps
theorem lawNd_any (p : List Itm) (pA : OA) (pn pc : Nat) (hs : List Dig) (hA : OA) (hn hc : Nat) (dep : Int) (pre : ByteArray) (w : World)
  (h0 : Sl w w.heap.size 3 pA pn (flat itC p)) (h1 : Sl w w.heap.size 2 hA hn (flat dgC hs)) (hpn : pn <= maxLen) (hsz : ∀ i ∈ p, i.2.size <= maxLen) (hh : ∀ d ∈ hs, WfD d) (hdep : dep <= 9223372036854775807) :
  Calls Tryz.prog 3 #[.slice pA pn pc, .slice hA hn hc, scV dep pre] w (jd w) := by
 have HPL := ah (h0.len cO (by unfold maxLen at hpn; omega)); have HH := ah hh; have HDEP := ah hdep; obtain ⟨i0, hi, hz0, hz1, hz2⟩ := info_parts iZ; have Hi := ah hi; have Hz0 := ah hz0; have Hz1 := ah hz1; have Hz2 := ah hz2; obtain ⟨W0, hW0⟩ : ∃ W, w.alloc (.cells #[.int .i64 dep, .string pre] 26) = W := ⟨_, rfl⟩
 have hb0 : Below w.heap.size w W0 := by rw [<- hW0]; exact (Below.refl _ w).alloc ai _
 have e0 : W0.heap.size = w.heap.size + 1 := by rw [<- hW0]; simp
 obtain ⟨W1, hW1⟩ : ∃ W, W0.alloc (.cells #[.slice hA hn hc] 24) = W := ⟨_, rfl⟩
 have hb1 : Below W0.heap.size W0 W1 := by rw [<- hW1]; exact (Below.refl _ W0).alloc ai _
 have HB1 : Hid (Below w.heap.size w W1) := hb0.trans (hb1.mono hb0.size); have HK1 : Hid (Bk W1 w.heap.size 26 #[.int .i64 dep, .string pre]) := by rw [<- hW1, <- hW0]; exact (Bk.new w _ _).alloc _
 have hL1 : Bk W1 (w.heap.size + 1) 24 #[.slice hA hn hc] := by rw [<- hW1, <- e0]; exact Bk.new W0 _ _
 have HP1 := ah (aO h0 HB1.out); have HH1 := ah (aO h1 HB1.out); have HS := ah (Bh pA pn pc p (w.heap.size + 1) hA hn hc W1 HP1.out hL1 hpn hsz); unfold SmE at HS; have HW0 := ah hW0; have HW1 := ah hW1; unfold scV jd; clear hh h0 h1 hW0 hW1 hb0 hb1 e0 hL1 hi hz0 hz1 hz2 hsz
 go_enter Tryz.func3, Tryz.ntmps3
 go_wp2_with fail; rw [HW0.out, HW1.out]; refine HS.out.mono ?_; rintro e w2 ⟨r, rfl, hr, hb2⟩; have HR := ah hr; have HB2 : Hid (Below w.heap.size w w2) := HB1.out.trans (hb2.mono HB1.out.size); have HK2 := ah (HK1.out.below hb2 HK1.out.lt); have HP2 := ah (aO HP1.out hb2); have HH2 := ah (aO HH1.out hb2); clear hr hb2 HS HB1 HK1 HP1 HH1 HW0 HW1; cases r with
 | false =>
   have HAW := ah (uf w2); unfold jd at HAW; go_wp2_with fail; refine HAW.out.mono ?_; rintro e w3 ⟨rfl, hb3⟩; have HB3 : Hid (Below w.heap.size w w3) := HB2.out.trans (hb3.mono HB2.out.size); clear hb3 HAW; go_wp2_with fail; go_ret
   exact ⟨rfl, HB3.out⟩
 | true =>
   obtain ⟨hn8, hp40, hpo⟩ := HR.out rfl; have HPO := ah hpo; clear hpo HR; have HC3 := ah (sV p pA pn pc hs hA hn hc dep pre w2.heap.size w2 HP2.out HH2.out ai HPO.out hp40 HH.out hn8); unfold scV at HC3; obtain ⟨x0, x1, _, _⟩ := HK2.out.two; go_wp2_with fail; refine HC3.out.mono ?_; rintro e w3 ⟨l3, ed3, z3, A3, c3, B3, d3, rfl, hR, ⟨hS1, hS2⟩, hwf, ⟨hlc3, hcm3, hec3, hcn3⟩, hll3, hel3, hb⟩; have HR3 := ah hR; have HS3 := ah hS1; have HT3 := ah hS2; have HB3 : Hid (Below w.heap.size w w3) := HB2.out.trans (hb.mono HB2.out.size); have HK3 := ah (HK2.out.below hb HK2.out.lt); have HP3 := ah (aO HP2.out hb); have HH3 := ah (aO HH2.out hb); clear hR hS1 hS2 hwf hb HC3 HB2 HK2 HP2 HH2 x0 x1; have HC4 := ah (rY p pA pn pc hs hA hn hc dep pre w3.heap.size w3 HP3.out HH3.out ai HPO.out hp40 HH.out hn8 HDEP.out); unfold scV at HC4; obtain ⟨x0, x1, _, _⟩ := HK3.out.two; go_wp2_with fail; refine HC4.out.mono ?_; rintro e w4 ⟨l4, ed4, z4, A4, c4, B4, d4, rfl, hR, ⟨hS1, hS2⟩, hwf, ⟨hlc4, hcm4, hec4, hcn4⟩, hll4, hel4, hb⟩; have HR4 := ah hR; have HS4 := ah hS1; have HT4 := ah hS2; have HB4 : Hid (Below w.heap.size w w4) := HB3.out.trans (hb.mono HB3.out.size); have HK4 := ah (HK3.out.below hb HK3.out.lt); have HP4 := ah (aO HP3.out hb); have HH4 := ah (aO HH3.out hb); have HS3 := ah (aO HS3.out hb); have HT3 := ah (aO HT3.out hb); clear hR hS1 hS2 hwf hb HC4 HB3 HK3 HP3 HH3 x0 x1; have HC5 := ah (nL p pA pn pc hs hA hn hc dep pre w4.heap.size w4 HP4.out HH4.out ai HPO.out hp40 HH.out hn8); unfold scV at HC5; obtain ⟨x0, x1, _, _⟩ := HK4.out.two; go_wp2_with fail; refine HC5.out.mono ?_; rintro e w5 ⟨l5, ed5, z5, A5, c5, B5, d5, rfl, hR, ⟨hS1, hS2⟩, hwf, ⟨hlc5, hcm5, hec5, hcn5⟩, hll5, hel5, hb⟩; have HR5 := ah hR; have HS5 := ah hS1; have HT5 := ah hS2; have HB5 : Hid (Below w.heap.size w w5) := HB4.out.trans (hb.mono HB4.out.size); have HK5 := ah (HK4.out.below hb HK4.out.lt); have HP5 := ah (aO HP4.out hb); have HH5 := ah (aO HH4.out hb); have HS3 := ah (aO HS3.out hb); have HT3 := ah (aO HT3.out hb); have HS4 := ah (aO HS4.out hb); have HT4 := ah (aO HT4.out hb); clear hR hS1 hS2 hwf hb HC5 HB4 HK4 HP4 HH4 x0 x1; have HC6 := ah (A8 p pA pn pc hs hA hn hc dep pre w5.heap.size w5 HP5.out HH5.out ai HPO.out hp40 HH.out hn8 HDEP.out); unfold scV at HC6; obtain ⟨x0, x1, _, _⟩ := HK5.out.two; go_wp2_with fail; refine HC6.out.mono ?_; rintro e w6 ⟨l6, ed6, z6, A6, c6, B6, d6, rfl, hR, ⟨hS1, hS2⟩, hwf, ⟨hlc6, hcm6, hec6, hcn6⟩, hll6, hel6, hb⟩; have HR6 := ah hR; have HS6 := ah hS1; have HT6 := ah hS2; have HB6 : Hid (Below w.heap.size w w6) := HB5.out.trans (hb.mono HB5.out.size); have HK6 := ah (HK5.out.below hb HK5.out.lt); have HP6 := ah (aO HP5.out hb); have HH6 := ah (aO HH5.out hb); have HS3 := ah (aO HS3.out hb); have HT3 := ah (aO HT3.out hb); have HS4 := ah (aO HS4.out hb); have HT4 := ah (aO HT4.out hb); have HS5 := ah (aO HS5.out hb); have HT5 := ah (aO HT5.out hb); clear hR hS1 hS2 hwf hb HC6 HB5 HK5 HP5 HH5 x0 x1; have hu4 := HR3.out.uniq HR4.out; have hu5 := HR3.out.uniq HR5.out; have hu6 := HR3.out.uniq HR6.out; obtain ⟨e1, e2, e3⟩ := hu4; subst e1 e2 e3; obtain ⟨e1, e2, e3⟩ := hu5; subst e1 e2 e3; obtain ⟨e1, e2, e3⟩ := hu6; subst e1 e2 e3; have hkl : (aN p l3).length <= 40 := Nat.le_trans (List.length_filter_le _ _) (by rw [HPL.out]; exact hp40); obtain ⟨q, hq⟩ : ∃ q, aN p l3 = q := ⟨_, rfl⟩
   rw [hq] at HS5 HS6 hkl ⊢; obtain ⟨qn, hqn⟩ : ∃ n, q.length = n := ⟨_, rfl⟩
   rw [hqn] at HS5 HS6 hkl ⊢; obtain ⟨n3, hn3⟩ : ∃ n, l3.length = n := ⟨_, rfl⟩
   rw [hn3] at HS3 HS4 hll3 ⊢; obtain ⟨m3, hm3⟩ : ∃ n, ed3.length = n := ⟨_, rfl⟩
   rw [hm3] at HT3 HT4 HT5 HT6 hel3 ⊢; have HE1 := ah (nE A3 A4 n3 c3 n3 c4 w6.heap.size l3 l3 w6 HS3.out HS4.out (by unfold maxLen; omega)); clear hq hqn hn3 hm3 HR3 HR4 HR5 HR6 HK6 HP6 HH6 hlc3 hcm3 hec3 hcn3 hlc4 hcm4 hec4 hcn4 hlc5 hcm5 hec5 hcn5 hlc6 hcm6 hec6 hcn6; go_wp2_with fail; refine HE1.out.mono ?_; rintro e w7 ⟨rfl, k7, rfl⟩; have hb7 : Below w6.heap.size w6 (w6.drewN k7) := aM (Below.refl _ _) k7; obtain ⟨w7, hw7⟩ : ∃ u, u = w6.drewN k7 := ⟨_, rfl⟩
   rw [<- hw7] at hb7 ⊢; have HB7 : Hid (Below w.heap.size w w7) := HB6.out.trans (hb7.mono HB6.out.size); have HT37 := ah (aO HT3.out hb7); have HT47 := ah (aO HT4.out hb7); have HT57 := ah (aO HT5.out hb7); have HT67 := ah (aO HT6.out hb7); have HS57 := ah (aO HS5.out hb7); have HS67 := ah (aO HS6.out hb7); simp only [decide_true]; have HE2 := ah (nE B3 B4 m3 d3 m3 d4 w7.heap.size ed3 ed3 w7 HT37.out HT47.out (by unfold maxLen; omega)); clear hw7 hb7 HE1 HS3 HS4 HS5 HS6 HT3 HT4 HT5 HT6 HB6; go_wp2_with fail; refine HE2.out.mono ?_; rintro e w8 ⟨rfl, k8, rfl⟩; have hb8 : Below w7.heap.size w7 (w7.drewN k8) := aM (Below.refl _ _) k8; obtain ⟨w8, hw8⟩ : ∃ u, u = w7.drewN k8 := ⟨_, rfl⟩
   rw [<- hw8] at hb8 ⊢; have HB8 : Hid (Below w.heap.size w w8) := HB7.out.trans (hb8.mono HB7.out.size); have HT58 := ah (aO HT57.out hb8); have HT68 := ah (aO HT67.out hb8); have HS58 := ah (aO HS57.out hb8); have HS68 := ah (aO HS67.out hb8); simp only [decide_true]; have HE3 := ah (BH A5 A6 qn c5 qn c6 w8.heap.size q q w8 HS58.out HS68.out (by unfold maxLen; omega)); clear hw8 hb8 HE2 HT37 HT47 HT57 HT67 HS57 HS67 HB7; go_wp2_with fail; refine HE3.out.mono ?_; rintro e w9 ⟨rfl, k9, rfl⟩; have hb9 : Below w8.heap.size w8 (w8.drewN k9) := aM (Below.refl _ _) k9; obtain ⟨w9, hw9⟩ : ∃ u, u = w8.drewN k9 := ⟨_, rfl⟩
   rw [<- hw9] at hb9 ⊢; have HB9 : Hid (Below w.heap.size w w9) := HB8.out.trans (hb9.mono HB8.out.size); have HT59 := ah (aO HT58.out hb9); have HT69 := ah (aO HT68.out hb9); simp only [decide_true]; have HE4 := ah (nE B5 B6 m3 d5 m3 d6 w9.heap.size ed3 ed3 w9 HT59.out HT69.out (by unfold maxLen; omega)); clear hw9 hb9 HE3 HT58 HT68 HS58 HS68 HB8; go_wp2_with fail; refine HE4.out.mono ?_; rintro e wa ⟨rfl, ka, rfl⟩; have hba : Below w9.heap.size w9 (w9.drewN ka) := aM (Below.refl _ _) ka; obtain ⟨wa, hwa⟩ : ∃ u, u = w9.drewN ka := ⟨_, rfl⟩
   rw [<- hwa] at hba ⊢; have HBa : Hid (Below w.heap.size w wa) := HB9.out.trans (hba.mono HB9.out.size); simp only [decide_true]; have HAW := ah (uf wa); unfold jd at HAW; clear hwa hba HE4 HT59 HT69 HB9; go_wp2_with fail; refine HAW.out.mono ?_; rintro e wb ⟨rfl, hbb⟩; have HBb : Hid (Below w.heap.size w wb) := HBa.out.trans (hbb.mono HBa.out.size); clear hbb HAW; go_wp2_with fail; go_ret
   exact ⟨rfl, HBb.out⟩
end
section
open Go.ChangeShapes Go.WideShapes Go.ChangeAt Go.RowKit Go.Joins Go.Deep
theorem vM : Tryz.prog.cellsOf 40 = 1 := by kernel_rfl
theorem pY : Tryz.prog.cellsOf 42 = 2 := by kernel_rfl
theorem wS : Tryz.prog.cellsOf 44 = 3 := by kernel_rfl
section
variable {H : Type} {enc : TypeId × Value -> H} {P : Program} {w : World} {base : Nat} {spare : Nat -> Bool} {held : Bool} {fuel : Nat} {cs : List Value} {x : DataW H × List MemPlace}
theorem vK {t s : TypeId} (ht : P.underlying t = some (.array 2 s)) (hs : P.underlying s = some (.int .u64))
  (hC : P.cellsOf t = 2) (hcs : P.cellsOf s = 1) (h : DataW.trod enc P w base spare held fuel t cs = some x) : ∃ d : Dig, cs = dgC d /\ WfD d := by
 obtain ⟨xs, m, _, _, hlen, hxl, hf⟩ := DataW.trod_array ht h; rw [hC] at hlen; obtain ⟨c0, c1, rfl⟩ := kg hlen; obtain ⟨y0, y1, rfl⟩ := kg hxl; have h0 := hf 0 (by omega); have h1 := hf 1 (by omega); rw [hcs] at h0 h1; simp at h0 h1; obtain ⟨a, ha, _, hz⟩ := DataW.trod_int hs h0; obtain ⟨b, hb, _, hz2⟩ := DataW.trod_int hs h1; simp at ha hb; obtain ⟨w1, w2⟩ := bounds_u64 hz; obtain ⟨w3, w4⟩ := bounds_u64 hz2; exact ⟨(a, b), by rw [ha, hb]; rfl, ⟨w1, by omega, w3, by omega⟩⟩
theorem Da {t e s u : TypeId} {f0 f1 : Field} (ht : P.underlying t = some (.struct #[f0, f1])) (o0 : f0.offset = 0) (o1 : f1.offset = 2) (t0 : f0.type = e) (t1 : f1.type = s)
  (he : P.underlying e = some (.array 2 u)) (hu : P.underlying u = some (.int .u64)) (hs : P.underlying s = some .string)
  (hC : P.cellsOf t = 3) (hce : P.cellsOf e = 2) (hcu : P.cellsOf u = 1) (hcs : P.cellsOf s = 1) (h : DataW.trod enc P w base spare held fuel t cs = some x) : ∃ i : Itm, cs = itC i /\ WfD i.1 /\ i.2.size <= maxLen := by
 obtain ⟨xs, m, _, _, hlen, hxl, hf⟩ := DataW.trod_struct ht h; rw [hC] at hlen; obtain ⟨c0, c1, c2, rfl⟩ := GH hlen; obtain ⟨y0, y1, rfl⟩ := kg hxl; have h0 := hf 0 f0 rfl; have h1 := hf 1 f1 rfl; rw [o0, t0, hce] at h0; rw [o1, t1, hcs] at h1; simp at h0 h1; obtain ⟨d, hd, hw⟩ := vK he hu hce hcu h0; obtain ⟨b, hb, _, hz⟩ := DataW.trod_string hs h1; simp [dgC] at hd hb; exact ⟨(d, b), by rw [hd.1, hd.2, hb]; rfl, hw, hz⟩
end
section
variable {H : Type} {enc : TypeId × Value -> H} {W : World} {base : Nat} {v : Value} {d : DataW H} {p : List MemPlace} {r : Reach} {b0 : Nat} {sp : Nat -> Bool} {held : Bool}
theorem open_pool (hv : Value.okWide Tryz.prog W r b0 23 v) (h : DataW.Trod enc Tryz.prog W base sp held 23 v d p) : ∃ A n c is, v = .slice A n c /\ Sl W W.heap.size 3 A n (flat itC is) /\ n <= c /\ c <= maxLen /\ ∀ i ∈ is, WfD i.1 /\ i.2.size <= maxLen := by
 obtain ⟨A, n, c, rfl⟩ := okWide_slice Tryz.underlying23 hv; obtain ⟨fuel, hf⟩ := h; obtain ⟨A', n', c', us, he, h1, h2, h3, h4⟩ := vw (encA := itC) (Q := fun i => WfD i.1 /\ i.2.size <= maxLen) Tryz.underlying23 wS (by omega) cO (fun _ _ _ hh => Da Tryz.underlying44 rfl rfl rfl rfl Tryz.underlying42 Tryz.underlying40 Tryz.underlying9 wS pY vM vN hh) hf; refine ⟨A', n', c', us, ?_, h1, h2, h3, h4⟩; have : [Value.slice A n c] = [Value.slice A' n' c'] := he
 simpa using this
end
end
section
open Go.ChangeShapes Go.WideShapes Go.ChangeAt Go.RowKit Go.Joins Go.Deep
theorem ES : Tryz.prog.cellsOf 26 = 2 := by kernel_rfl
theorem cellsIn : Tryz.prog.cellsOf 3 = 1 := by kernel_rfl
section
variable {H : Type} {enc : TypeId × Value -> H} {P : Program} {w : World} {base : Nat} {spare : Nat -> Bool} {held : Bool} {fuel : Nat} {cs : List Value} {x : DataW H × List MemPlace}
end
theorem zO {P : Program} {w : World} {r : Reach} {base : Nat} {t : TypeId} {fs : Array Field} {v : Value} (ht : P.underlying t = some (.struct fs)) (h : Value.okWide P w r base t v) : ∃ cs, v = .agg cs /\ cs.size = P.cellsOf t := by
 simp only [Value.okWide, ht] at h; obtain ⟨cs, h1, h2, _⟩ := h; exact ⟨cs, h1, h2⟩
section
variable {H : Type} {enc : TypeId × Value -> H} {W : World} {base : Nat} {v : Value} {d : DataW H} {p : List MemPlace} {r : Reach} {b0 : Nat} {sp : Nat -> Bool} {held : Bool}
theorem open_digs (hv : Value.okWide Tryz.prog W r b0 24 v) (h : DataW.Trod enc Tryz.prog W base sp held 24 v d p) : ∃ A n c ds, v = .slice A n c /\ Sl W W.heap.size 2 A n (flat dgC ds) /\ n <= c /\ c <= maxLen /\ ∀ d ∈ ds, WfD d := by
 obtain ⟨A, n, c, rfl⟩ := okWide_slice Tryz.underlying24 hv; obtain ⟨fuel, hf⟩ := h; obtain ⟨A', n', c', us, he, h1, h2, h3, h4⟩ := vw (encA := dgC) (Q := fun d => WfD d) Tryz.underlying24 pY (by omega) aS (fun _ _ _ hh => vK Tryz.underlying42 Tryz.underlying40 pY vM hh) hf; refine ⟨A', n', c', us, ?_, h1, h2, h3, h4⟩; have : [Value.slice A n c] = [Value.slice A' n' c'] := he
 simpa using this
end
end
section
open Go.ChangeShapes Go.WideShapes Go.ChangeAt Go.RowKit Go.Joins Go.Deep
section
variable {H : Type} {enc : TypeId × Value -> H} {P : Program} {w : World} {base : Nat} {spare : Nat -> Bool} {held : Bool} {fuel : Nat} {cs : List Value} {x : DataW H × List MemPlace}
theorem C9 {t i s : TypeId} {f0 f1 : Field} (ht : P.underlying t = some (.struct #[f0, f1])) (o0 : f0.offset = 0) (o1 : f1.offset = 1) (t0 : f0.type = i) (t1 : f1.type = s)
  (hi : P.underlying i = some (.int .i64)) (hs : P.underlying s = some .string)
  (hC : P.cellsOf t = 2) (hci : P.cellsOf i = 1) (hcs : P.cellsOf s = 1) (h : DataW.trod enc P w base spare held fuel t cs = some x) : ∃ (z : Int) (b : ByteArray), cs = [.int .i64 z, .string b] /\ b.size <= maxLen /\ z <= 9223372036854775807 := by
 obtain ⟨xs, m, _, _, hlen, hxl, hf⟩ := DataW.trod_struct ht h; rw [hC] at hlen; obtain ⟨c0, c1, rfl⟩ := kg hlen; obtain ⟨y0, y1, rfl⟩ := kg hxl; have h0 := hf 0 f0 rfl; have h1 := hf 1 f1 rfl; rw [o0, t0, hci] at h0; rw [o1, t1, hcs] at h1; simp at h0 h1; obtain ⟨a, ha, _, hr⟩ := DataW.trod_int hi h0; obtain ⟨b, hb, _, hz⟩ := DataW.trod_string hs h1; simp at ha hb; exact ⟨a, b, by rw [ha, hb], hz, by simp [Lit.wf, IntKind.min, IntKind.max, IntKind.signed, IntKind.bits] at hr; omega⟩
end
section
variable {H : Type} {enc : TypeId × Value -> H} {W : World} {base : Nat} {v : Value} {d : DataW H} {p : List MemPlace} {r : Reach} {b0 : Nat} {sp : Nat -> Bool} {held : Bool}
theorem open_scopeZ (hv : Value.okWide Tryz.prog W r b0 26 v) (h : DataW.Trod enc Tryz.prog W base sp held 26 v d p) : ∃ (z : Int) (b : ByteArray), v = scV z b /\ b.size <= maxLen /\ z <= 9223372036854775807 := by
 obtain ⟨cs, rfl, hsz⟩ := zO Tryz.underlying26 hv; obtain ⟨fuel, hf⟩ := h; obtain ⟨z, b, he, hw, hz⟩ := C9 Tryz.underlying26 rfl rfl rfl rfl Tryz.underlying3 Tryz.underlying9 ES cellsIn vN hf; have : cs.toList = [.int .i64 z, .string b] := he; exact ⟨z, b, by rw [show cs = #[.int .i64 z, .string b] by rw [<- Array.toArray_toList (xs := cs), this]]; rfl, hw, hz⟩
end
end
end Go.Proofs.YtlcecobipgmafaaGreatDoor
