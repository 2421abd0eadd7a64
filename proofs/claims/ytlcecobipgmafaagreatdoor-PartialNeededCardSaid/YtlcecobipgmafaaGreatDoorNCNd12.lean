/-
  Lemmas of the card.
-/
import Derived.BigQuiet
import Derived.IntWalk
import Derived.Test.YtlcecobipgmafaaGreatDoorNCNd11
import Derived.Test.YtlcecobipgmafaaGreatDoorNCNd10
import Derived.Test.YtlcecobipgmafaaGreatDoorNCNd8
import Derived.Test.YtlcecobipgmafaaGreatDoorNCNd7
import Derived.Test.YtlcecobipgmafaaGreatDoorNCNd9
import Derived.Test.YtlcecobipgmafaaGreatDoorNCNd4
import Derived.Test.YtlcecobipgmafaaGreatDoorNCNd2
import Derived.Test.YtlcecobipgmafaaGreatDoorNCNd5
set_option maxRecDepth 100000
set_option maxHeartbeats 16000000
namespace Go.Proofs.YtlcecobipgmafaaGreatDoor
open Go.RowKit
def KeE (p : List Itm) (l : List Dig) (w : World) (e : Ending) (w' : World) : Prop :=
 ∃ A c, e = .returned (.slice A (aN p l).length c) /\ Sl w' w'.heap.size 3 A (aN p l).length (flat itC (aN p l)) /\ (aN p l).length <= c /\ c <= maxLen /\ Below w.heap.size w w'
theorem tV {p : List Itm} {l : List Dig} {k : Nat} {x : Itm} (h : p[k]? = some x) : aN (p.take (k + 1)) l = if x.1 ∈ l then aN (p.take k) l ++ [x] else aN (p.take k) l := by
 rw [bA h]; unfold aN; rw [List.filter_append]; by_cases hx : x.1 ∈ l
 . rw [if_pos hx]; congr 1; simp [hx]
 . rw [if_neg hx]; simp [hx]
theorem Am (A : OA) (n c B : Nat) (A1 : OA) (n1 c1 : Nat) (p : List Itm) (l : List Dig) (w : World) (h0 : Sl w B 3 A n (flat itC p)) (h1 : Sl w B 2 A1 n1 (flat dgC l)) (hB : B <= w.heap.size) (hn : n <= 900000) (hn1 : n1 <= 900000) :
  Calls Tryz.prog 33 #[.slice A n c, .slice A1 n1 c1] w (KeE p l w) := by
 have HL := ah (h0.len cO (by omega)); have H0 := ah h0; have H1 := ah h1; clear h0 h1; obtain ⟨i0, hi, hz0, hz1, hz2⟩ := info_parts iZ; have Hi := ah hi; have Hz0 := ah hz0; have Hz1 := ah hz1; have Hz2 := ah hz2; clear hi hz0 hz1 hz2
 go_enter Tryz.func33, Tryz.ntmps33
 go_wp2_with fail
 go_loopw [5, 6] (fun q i wr => ∃ (k m : Nat) (A' : OA) (c' : Nat), k <= n /\ i = .int .i64 k /\ q = .slice A' m c' /\ m <= c' /\ c' <= maxLen /\ m <= k /\ Hid ((aN (p.take k) l).length = m) /\ Hid (Apd wr w.heap.size 44 3 A' m c' (flat itC (aN (p.take k) l))) /\ Hid (Below w.heap.size w wr)) (fun _ i _ => n - (intOf i).toNat)
 case atStart => exact ⟨0, 0, none, 0, Nat.zero_le _, rfl, rfl, Nat.le_refl _, Nat.zero_le _, Nat.le_refl _, rfl, .inr ⟨rfl, rfl, rfl⟩, Below.refl _ _⟩
 case round =>
  obtain ⟨k, m, A', c', hk, rfl, rfl, hmc, hcm, hmk, hM, hO, hBel⟩ := hrel; have HM := ah hM.out; have HO := ah hO.out; have HBE := ah hBel.out; have zr : w.heap.size <= wr.heap.size := HBE.out.size; clear hM hO hBel; by_cases hlt : k < n
  . obtain ⟨bb, off, x, rfl, hbB, hx, y0, y1, y2⟩ := (H0.out.below HBE.out hB).it hlt
    have hlz : (k : Int) < (n : Int) := by omega
    have HX := ah hx; clear hx; obtain ⟨⟨x1, x2⟩, xs⟩ := x; simp only at y0 y1 y2; have HC := ah (jK A1 n1 c1 wr.heap.size l (x1, x2) wr ((H1.out.below HBE.out hB).more (by omega)) ai (by omega)); simp only [az] at HC; go_wp2_with fail; refine HC.out.mono ?_; rintro e w2 ⟨rfl, hb⟩; have y0 := (hb.cell (p := ⟨bb, off + k * 3, none⟩) (by show bb < _; omega)).trans y0; have y1 := (hb.cell (p := ⟨bb, off + k * 3 + 1, none⟩) (by show bb < _; omega)).trans y1; have y2 := (hb.cell (p := ⟨bb, off + k * 3 + 2, none⟩) (by show bb < _; omega)).trans y2; have HO2 := ah (HO.out.below hb); have HB2 : Hid (Below w.heap.size w w2) := HBE.out.trans (hb.mono zr); have zr2 : w.heap.size <= w2.heap.size := HB2.out.size; have HKS : Hid (aN (p.take (k + 1)) l = if ((x1, x2) : Dig) ∈ l then aN (p.take k) l ++ [((x1, x2), xs)] else aN (p.take k) l) := tV HX.out; clear hb HC HO HBE; by_cases hin : ((x1, x2) : Dig) ∈ l
    . have HK : Hid (aN (p.take (k + 1)) l = aN (p.take k) l ++ [((x1, x2), xs)]) := by show _ = _; rw [HKS.out, if_pos hin]
      have hdt : decide (((x1, x2) : Dig) ∈ l) = true := decide_eq_true hin; rw [hdt]; clear hin HKS hdt
      go_wp2_with (at_builtin; refine kP (.tmp 20) (.tmp 25) 23 rfl ?_)
      refine aC ?_; refine dJ (base := w.heap.size) (size := 3) _ rfl (.tmp 20) (.tmp 25) 23 rfl 44 i0 _ 32 Tryz.underlying23 Hi.out Hz0.out Hz1.out Hz2.out rfl (by decide) A' m c' _ rfl (Apd.below HO2.out ((Below.refl _ _).alloc ai _)) _ _ 1 1 (flat itC [((x1, x2), xs)]) rfl (Sl.of_bk (n := 1) (size := 3) (Bk.new _ _ _) rfl) (jP _) (by unfold maxLen; omega) (by omega) (by rw [World.size_alloc]; exact Nat.le_succ_of_le zr2) ?_; intro A4 c4 w4 ha4 hb4 hn4 hm4 _; rw [<- bT, <- HK.out] at ha4; have HA4 := ah ha4; have HB4 : Hid (Below w.heap.size w w4) := (Below.alloc HB2.out zr2 _).trans hb4; have HM4 : Hid ((aN (p.take (k + 1)) l).length = m + 1) := by show _ = _; rw [HK.out, List.length_append, HM.out]; rfl
      clear ha4 hb4; go_wp2_with fail; go_roundw
      case rel => exact ⟨k + 1, m + 1, A4, c4, hlt, by go_num, rfl, hn4, hm4, by omega, HM4.out, HA4.out, HB4.out⟩
      case measure => simp [intOf]; omega
    . have HK : Hid (aN (p.take (k + 1)) l = aN (p.take k) l) := by show _ = _; rw [HKS.out, if_neg hin]
      have hdt : decide (((x1, x2) : Dig) ∈ l) = false := decide_eq_false hin; rw [hdt]; clear hin HKS hdt; go_wp2_with fail; go_roundw
      case rel => exact ⟨k + 1, m, A', c', hlt, by go_num, rfl, hmc, hcm, by omega, by rw [HK.out]; exact HM.out, by rw [HK.out]; exact HO2.out, HB2.out⟩
      case measure => simp [intOf]; omega
  . have hlz : ¬ (k : Int) < (n : Int) := by omega
    have HT : Hid (p.take k = p) := List.take_of_length_le (by rw [HL.out]; omega); rw [HT.out] at HM HO; go_wp2_with fail; go_ret
    exact ⟨A', c', by rw [HM.out]; rfl, by rw [HM.out]; exact HO.out.sl, by rw [HM.out]; exact hmc, hcm, HBE.out⟩
section
open Go.Maps
def inT (l : List Dig) (k : Nat) : Dig -> Bool := fun d => decide (d ∈ l.take k)
theorem Df (l : List Dig) : inT l 0 = fun _ => false := by funext d; simp [inT]
theorem Dl {l : List Dig} {k : Nat} {x : Dig} (h : l[k]? = some x) : aK (inT l k) x = inT l (k + 1) := by
 funext d
 rw [Bool.eq_iff_iff, setB_true]; unfold inT; rw [decide_eq_true_iff, decide_eq_true_iff, bA h, List.mem_append, List.mem_singleton]; exact ⟨fun h => h.symm, fun h => h.symm⟩
theorem D7 {l : List Dig} {k : Nat} (h : l.length <= k) (d : Dig) : inT l k d = decide (d ∈ l) := by unfold inT; rw [List.take_of_length_le h]
theorem BD (A : OA) (n c B : Nat) (A1 : OA) (n1 c1 : Nat) (p : List Itm) (l : List Dig) (w : World) (h0 : Sl w B 3 A n (flat itC p)) (h1 : Sl w B 2 A1 n1 (flat dgC l)) (hB : B <= w.heap.size) (hn : n <= 900000) (hn1 : n1 <= 500000000) (hw : ∀ d ∈ l, WfD d) (hwp : ∀ i ∈ p, WfD i.1) :
  Calls Tryz.prog 22 #[.slice A n c, .slice A1 n1 c1] w (KeE p l w) := by
 have HL := ah (h0.len cO (by omega)); have HL1 := ah (h1.len aS (by omega)); have H0 := ah h0; have H1 := ah h1; have HW := ah hw; have HWP := ah hwp; clear h0 h1 hw hwp; obtain ⟨i0, hi, hz0, hz1, hz2⟩ := info_parts iZ; have Hi := ah hi; have Hz0 := ah hz0; have Hz1 := ah hz1; have Hz2 := ah hz2; clear hi hz0 hz1 hz2; have hmm := @run_makeMap Tryz.prog
 go_enter Tryz.func22, Tryz.ntmps22
 obtain ⟨W0, hW0⟩ : ∃ W, w.alloc (.map #[] 0) = W := ⟨_, rfl⟩
 have HS0 : Hid (Sd W0 w.heap.size 0 (inT l 0)) := by rw [Df, <- hW0]; exact Sd.made w
 have HB0 : Hid (Below w.heap.size w W0) := by rw [<- hW0]; exact (Below.refl _ w).alloc ai _
 go_wp2_with fail; clear hmm hW0
 go_loopw [14] (fun i wr => ∃ k : Nat, k <= n1 /\ i = .int .i64 k /\ Hid (Sd wr w.heap.size k (inT l k)) /\ Hid (Below w.heap.size w wr)) (fun i _ => n1 - (intOf i).toNat)
 case atStart => exact ⟨0, Nat.zero_le _, rfl, HS0.out, HB0.out⟩
 case round =>
  obtain ⟨k, hk, rfl, hS, hBel⟩ := hrel; have HS := ah hS.out; have HBE := ah hBel.out; have zr : w.heap.size <= wr.heap.size := HBE.out.size; have hlts : w.heap.size < wr.heap.size := HS.out.lt; clear hS hBel HS0 HB0; by_cases hlt : k < n1
  . obtain ⟨bb, off, x, rfl, hbB, hx, y0, y1⟩ := (H1.out.below HBE.out hB).dg hlt
    have hlz : (k : Int) < (n1 : Int) := by omega
    have HX := ah hx; have HXW := ah (dF (HW.out x (List.mem_of_getElem? hx))); clear hx; obtain ⟨x1, x2⟩ := x; simp only at y0 y1; obtain ⟨W, hW⟩ : ∃ W, wr.alloc (.cells #[.int .u64 x1, .int .u64 x2] 42) = W := ⟨_, rfl⟩
    have HS2 : Hid (Sd W w.heap.size k (inT l k)) := by rw [<- hW]; exact HS.out.below ((Below.refl wr.heap.size wr).alloc ai _) hlts
    have HB2 : Hid (Below w.heap.size w W) := by rw [<- hW]; exact HBE.out.alloc zr _
    have HK2 : Hid (Bk W wr.heap.size 42 #[.int .u64 x1, .int .u64 x2]) := by rw [<- hW]; exact Bk.new wr _ _
    obtain ⟨r0, r1, _, _⟩ := HK2.out.two; have HWa := ah hW; clear hW
    go_wp2_with (at_mapUpdate; refine aI ?_)
    rw [HWa.out]
    go_wp2_with (at_mapUpdate; refine aI ?_)
    refine aC ?_; refine ng rfl _ _ _ 62 rfl Tryz.underlying62 w.heap.size k _ rfl HS2.out (by unfold maxLen; omega) (x1, x2) HXW.out rfl rfl ?_; intro w3 hS3 hg3; rw [Dl HX.out] at hS3; have HS3 := ah hS3; have HB3 : Hid (Below w.heap.size w w3) := HB2.out.grown hg3 HB2.out.size (fun g e => by cases e; omega); clear hS3 hg3 HS2 HB2 HK2 r0 r1 y0 y1 HWa; go_wp2_with fail; go_roundw
    case rel => exact ⟨k + 1, hlt, by go_num, HS3.out, HB3.out⟩
    case measure => simp [intOf]; omega
  . have hlz : ¬ (k : Int) < (n1 : Int) := by omega
    obtain ⟨wo, hwo⟩ : ∃ wo, wo = wr := ⟨_, rfl⟩
    subst hwo; have HIN : Hid (∀ d, inT l k d = decide (d ∈ l)) := D7 (by rw [HL1.out]; omega); obtain ⟨s, hs⟩ : ∃ s, inT l k = s := ⟨_, rfl⟩
    rw [hs] at HS HIN; clear hs; obtain ⟨w0, hw0⟩ : ∃ w0, w0 = w := ⟨_, rfl⟩
    go_wp2_with fail
    go_loopw [8, 23] (fun q i wr => ∃ (k2 m : Nat) (A' : OA) (c' : Nat), k2 <= n /\ i = .int .i64 k2 /\ q = .slice A' m c' /\ m <= c' /\ c' <= maxLen /\ m <= k2 /\ Hid ((aN (p.take k2) l).length = m) /\ Hid (Apd wr wo.heap.size 44 3 A' m c' (flat itC (aN (p.take k2) l))) /\ Hid (Below wo.heap.size wo wr)) (fun _ i _ => n - (intOf i).toNat)
    case atStart => exact ⟨0, 0, none, 0, Nat.zero_le _, rfl, rfl, Nat.le_refl _, Nat.zero_le _, Nat.le_refl _, rfl, .inr ⟨rfl, rfl, rfl⟩, Below.refl _ _⟩
    case round =>
     obtain ⟨k2, m, A', c', hk2, rfl, rfl, hmc, hcm, hmk, hM, hO, hBel⟩ := hrel; have HM := ah hM.out; have HO := ah hO.out; have HBr := ah hBel.out; have zo : wo.heap.size <= wr.heap.size := HBr.out.size; clear hM hO hBel; by_cases hlt2 : k2 < n
     . obtain ⟨bb, off, x, rfl, hbB, hx, y0, y1, y2⟩ := ((H0.out.below HBE.out hB).below HBr.out (by omega)).it hlt2
       have hlz2 : (k2 : Int) < (n : Int) := by omega
       have HX := ah hx; have HXW := ah (dF (HWP.out x (List.mem_of_getElem? hx))); clear hx; obtain ⟨⟨x1, x2⟩, xs⟩ := x; simp only at y0 y1 y2 HXW; obtain ⟨W, hW⟩ : ∃ W, wr.alloc (.cells #[.int .u64 x1, .int .u64 x2, .string xs] 44) = W := ⟨_, rfl⟩
       have HBW : Hid (Below wr.heap.size wr W) := by rw [<- hW]; exact (Below.refl _ wr).alloc ai _
       have HKW : Hid (Bk W wr.heap.size 44 #[.int .u64 x1, .int .u64 x2, .string xs]) := by rw [<- hW]; exact Bk.new wr _ _
       have zW : wr.heap.size < W.heap.size := HKW.out.lt; have HNB : Hid (Bk (W.alloc (.cells #[.int .u64 x1, .int .u64 x2, .string xs] 44)) (wr.heap.size + 1) 44 #[.int .u64 x1, .int .u64 x2, .string xs]) := by
        have e := Bk.new W 44 #[.int .u64 x1, .int .u64 x2, .string xs]; rw [<- hW, World.size_alloc] at e; rw [<- hW]; exact e
       have HOW := ah (HO.out.below HBW.out); have HBo : Hid (Below wo.heap.size wo W) := HBr.out.trans (HBW.out.mono zo); have hlk := Sd.look (d := (x1, x2)) (HS.out.below HBo.out hlts) Tryz.underlying62 HXW.out; rw [HIN.out] at hlk; simp only at hlk; obtain ⟨r0, r1, r2⟩ := HKW.out.three; have HWa := ah hW; have HKS : Hid (aN (p.take (k2 + 1)) l = if ((x1, x2) : Dig) ∈ l then aN (p.take k2) l ++ [((x1, x2), xs)] else aN (p.take k2) l) := tV HX.out; clear hW HBW HKW; by_cases hin : ((x1, x2) : Dig) ∈ l
       . have HK : Hid (aN (p.take (k2 + 1)) l = aN (p.take k2) l ++ [((x1, x2), xs)]) := by show _ = _; rw [HKS.out, if_pos hin]
         have hdt : decide (((x1, x2) : Dig) ∈ l) = true := decide_eq_true hin; rw [hdt] at hlk; rw [<- HWa.out] at hlk r0 r1 r2; clear hin HKS hdt
         go_wp2_with (at_builtin; refine kP (.tmp 31) (.tmp 33) 23 rfl ?_)
         rw [HWa.out]; refine aC ?_; refine dJ (base := wo.heap.size) (size := 3) _ rfl (.tmp 31) (.tmp 33) 23 rfl 44 i0 _ 32 Tryz.underlying23 Hi.out Hz0.out Hz1.out Hz2.out rfl (by decide) A' m c' _ rfl (Apd.below HOW.out ((Below.refl _ _).alloc ai _)) _ _ 1 1 (flat itC [((x1, x2), xs)]) rfl (Sl.of_bk (n := 1) (size := 3) HNB.out rfl) (jP _) (by unfold maxLen; omega) (by omega) (by rw [World.size_alloc]; omega) ?_; intro A4 c4 w4 ha4 hb4 hn4 hm4 _; rw [<- bT, <- HK.out] at ha4; have HA4 := ah ha4; have HB4 : Hid (Below wo.heap.size wo w4) := (Below.alloc HBo.out (by omega) _).trans hb4; have HM4 : Hid ((aN (p.take (k2 + 1)) l).length = m + 1) := by show _ = _; rw [HK.out, List.length_append, HM.out]; rfl
         clear ha4 hb4; go_wp2_with fail; go_roundw
         case rel => exact ⟨k2 + 1, m + 1, A4, c4, hlt2, by go_num, rfl, hn4, hm4, by omega, HM4.out, HA4.out, HB4.out⟩
         case measure => simp [intOf]; omega
       . have HK : Hid (aN (p.take (k2 + 1)) l = aN (p.take k2) l) := by show _ = _; rw [HKS.out, if_neg hin]
         have hdt : decide (((x1, x2) : Dig) ∈ l) = false := decide_eq_false hin; rw [hdt] at hlk; rw [<- HWa.out] at hlk r0 r1 r2; clear hin HKS hdt; go_wp2_with fail; rw [HWa.out]; go_roundw
         case rel => exact ⟨k2 + 1, m, A', c', hlt2, by go_num, rfl, hmc, hcm, by omega, by rw [HK.out]; exact HM.out, by rw [HK.out]; exact HOW.out, HBo.out⟩
         case measure => simp [intOf]; omega
     . have hlz2 : ¬ (k2 : Int) < (n : Int) := by omega
       have HT : Hid (p.take k2 = p) := List.take_of_length_le (by rw [HL.out]; omega); rw [HT.out] at HM HO; go_wp2_with fail; go_ret
       exact ⟨A', c', by rw [HM.out]; rfl, by rw [HM.out]; exact HO.out.sl, by rw [HM.out]; exact hmc, hcm, HBE.out.trans (HBr.out.mono HBE.out.size)⟩
end
section
open Go.Maps
def ClE (p : List Itm) (hs : List Dig) (dep : Int) (pre : ByteArray) (w : World) (e : Ending) (w' : World) : Prop :=
 ∃ l edge z A c A2 c2, e = .returned (.tuple #[.slice A (aN p l).length c, .slice A2 edge.length c2, .int .i64 z]) /\ NdR 2 4 9 p hs dep (toL pre) l edge z /\ (Sl w' w'.heap.size 3 A (aN p l).length (flat itC (aN p l)) /\ Sl w' w'.heap.size 2 A2 edge.length (flat dgC edge)) /\ (∀ d ∈ l, WfD d) /\ ((aN p l).length <= c /\ c <= maxLen /\ edge.length <= c2 /\ c2 <= maxLen) /\ l.length <= 500000000 /\ edge.length <= 500000000 /\ Below w.heap.size w w'
theorem iI (p : List Itm) : aN p [] = [] := by unfold aN; simp
theorem Fh {p : List Itm} (hp : PlOk p) (i : Itm) (hi : i ∈ p) : WfD i.1 := by rw [hp.dg i hi]; exact dL _
theorem nL (p : List Itm) (pA : OA) (pn pc : Nat) (hs : List Dig) (hA : OA) (hn hc : Nat) (dep : Int) (pre : ByteArray) (B : Nat) (w : World)
  (h0 : Sl w B 3 pA pn (flat itC p)) (h1 : Sl w B 2 hA hn (flat dgC hs)) (hB : B <= w.heap.size) (hpo : PlOk p) (hpn : pn <= 40) (hh : ∀ d ∈ hs, WfD d) (hhn : hn <= 8) :
  Calls Tryz.prog 11 #[.slice pA pn pc, .slice hA hn hc, scV dep pre] w (ClE p hs dep pre w) := by
 have HPO := ah hpo; have HH := ah hh; obtain ⟨W0, hW0⟩ : ∃ W, w.alloc (.cells #[.int .i64 dep, .string pre] 26) = W := ⟨_, rfl⟩
 have HB0 : Hid (Below w.heap.size w W0) := by rw [<- hW0]; exact (Below.refl _ w).alloc ai _
 have HK0 : Hid (Bk W0 w.heap.size 26 #[.int .i64 dep, .string pre]) := by rw [<- hW0]; exact Bk.new w _ _
 have zW0 : w.heap.size < W0.heap.size := HK0.out.lt; have HP0 := ah (h0.below HB0.out hB); have HH0 := ah (h1.below HB0.out hB); have HN := ah (sV p pA pn pc hs hA hn hc dep pre B W0 HP0.out HH0.out (by omega) HPO.out hpn HH.out hhn); obtain ⟨x0, x1, _, _⟩ := HK0.out.two; have HW0 := ah hW0; rw [<- hW0] at x0 x1; unfold scV at HN ⊢; clear hpo hh h0 h1 hW0
 go_enter Tryz.func11, Tryz.ntmps11
 go_wp2_with fail; rw [HW0.out]; refine HN.out.mono ?_; rintro e w1 ⟨l, edge, z, A, c, A2, c2, rfl, hR, ⟨hS1, hS2⟩, hwf, ⟨hlc, hcm, hec, hcm2⟩, hll, hel, hb1⟩; have HR := ah hR; have HS1 := ah hS1; have HS2 := ah hS2; have HWF := ah hwf; have HB1 : Hid (Below w.heap.size w w1) := HB0.out.trans (hb1.mono (by omega)); have HP1 := ah (HP0.out.below hb1 (by omega)); have z1 : W0.heap.size <= w1.heap.size := hb1.size; clear hR hS1 hS2 hwf hb1 HN x0 x1 HW0; by_cases hz : z = 0
 . subst hz
   have HK := ah (BD pA pn pc w1.heap.size A l.length c p l w1 (HP1.out.more (by omega)) HS1.out ai (by omega) hll HWF.out (Fh HPO.out)); go_wp2_with fail; refine HK.out.mono ?_; rintro e w2 ⟨A3, c3, rfl, hS3, hkc, hkm, hb2⟩; have HS3 := ah hS3; have HB2 : Hid (Below w.heap.size w w2) := HB1.out.trans (hb2.mono HB1.out.size); have HS22 := ah ((HS2.out.below hb2 ai).more hb2.size); clear hS3 hb2 HK; go_wp2_with fail; refine bodyPost_ret (results_tmp3 rfl _ _ _) rfl ?_; exact ⟨l, edge, 0, A3, c3, A2, c2, rfl, HR.out, ⟨HS3.out, HS22.out⟩, HWF.out, ⟨hkc, hkm, hec, hcm2⟩, hll, hel, HB2.out⟩
 . have hzz : (z != 0) = true := by rw [bne_iff_ne]; exact hz
   obtain ⟨e1, e2⟩ := HR.out.none hz; have HE1 := ah e1; have HE2 := ah e2; clear e1 e2 hz; go_wp2_with fail; refine bodyPost_ret (results_tmp3 rfl _ _ _) rfl ?_; rw [HE1.out, HE2.out] at HR; refine ⟨[], [], z, none, 0, none, 0, ?_, HR.out, ?_, (fun d h => by cases h), ?_, Nat.zero_le _, Nat.zero_le _, HB1.out⟩
   . rw [iI]; rfl
   . rw [iI]; exact ⟨Sl.nil _ _ _ _, Sl.nil _ _ _ _⟩
   . rw [iI]; exact ⟨Nat.le_refl _, Nat.zero_le _, Nat.le_refl _, Nat.zero_le _⟩
end
section
attribute [local irreducible] ofB ak cA cB cC cR cT ofL
def jd (w : World) (e : Ending) (w' : World) : Prop := e = .returned (.bool true) /\ Below w.heap.size w w'
theorem GD {w w' : World} {e : Ending} (h : ClE r7 [ofB cC] 2 ⟨#[]⟩ w e w') : ∃ A c A2 c2, e = .returned (.tuple #[.slice A 6 c, .slice A2 1 c2, .int .i64 0]) /\ Sl w' w'.heap.size 2 A2 1 (flat dgC [ofB cB]) /\ Below w.heap.size w w' := by
 obtain ⟨l, edge, z, A, c, A2, c2, rfl, hR, hS, _, _, _, _, hb⟩ := h; obtain ⟨rfl, h6, rfl⟩ := EP hR; rw [h6]; exact ⟨A, c, A2, c2, rfl, hS.2, hb⟩
theorem Gx {w w' : World} {e : Ending} (h : ClE r7 [ofB cC] 1 ⟨#[115, 114, 99, 47]⟩ w e w') : ∃ A c A2 n2 c2, e = .returned (.tuple #[.slice A 4 c, .slice A2 n2 c2, .int .i64 0]) /\ Below w.heap.size w w' := by
 obtain ⟨l, edge, z, A, c, A2, c2, rfl, hR, hS, _, _, _, _, hb⟩ := h; obtain ⟨rfl, h6⟩ := EO hR; rw [h6]; exact ⟨A, c, A2, edge.length, c2, rfl, hb⟩
theorem uf (w : World) : Calls Tryz.prog 8 #[] w (jd w) := by
 have HCH := ah (Bv w); unfold yz at HCH; unfold jd
 go_enter Tryz.func8, Tryz.ntmps8
 go_wp2_with fail; refine HCH.out.mono ?_; rintro e w1 ⟨A7, c7, rfl, hs1, hc1, hm1, hb1⟩; have HS1 := ah hs1; have HB1 := ah hb1; clear hs1 hb1 HCH; obtain ⟨⟨b1, b2⟩, hd⟩ : ∃ d, ofB cB = d := ⟨_, rfl⟩
 have HDb := ah hd; rw [hd]; clear hd; obtain ⟨⟨c1, c2⟩, hd⟩ : ∃ d, ofB cC = d := ⟨_, rfl⟩
 have HDc := ah hd; rw [hd]; clear hd; simp only [az]; obtain ⟨W2, hW2⟩ : ∃ W, (w1.alloc (.cells #[.int .u64 b1, .int .u64 b2] 42)).alloc (.cells #[.int .u64 c1, .int .u64 c2] 42) = W := ⟨_, rfl⟩
 have hb2 : Below w1.heap.size w1 W2 := by rw [<- hW2]; exact ((Below.refl _ w1).alloc ai _).alloc (by simp) _
 have HKb : Hid (Bk W2 w1.heap.size 42 #[.int .u64 b1, .int .u64 b2]) := by rw [<- hW2]; exact (Bk.new w1 _ _).alloc _
 have HKc : Hid (Bk W2 (w1.heap.size + 1) 42 #[.int .u64 c1, .int .u64 c2]) := by
  rw [<- hW2]; have := Bk.new (w1.alloc (.cells #[.int .u64 b1, .int .u64 b2] 42)) 42 #[.int .u64 c1, .int .u64 c2]; rw [World.size_alloc] at this; exact this
 obtain ⟨W3, hW3⟩ : ∃ W, W2.alloc (.cells #[.int .u64 c1, .int .u64 c2] 42) = W := ⟨_, rfl⟩
 have hb3 : Below W2.heap.size W2 W3 := by rw [<- hW3]; exact (Below.refl _ W2).alloc ai _
 have e2 : W2.heap.size = w1.heap.size + 1 + 1 := by rw [<- hW2]; simp
 have HL3 : Hid (Sl W3 W3.heap.size 2 (some ⟨w1.heap.size + 1 + 1, 0, none⟩) 1 (flat dgC [(c1, c2)])) := by rw [<- hW3, <- e2]; exact Sl.of_bk (n := 1) (size := 2) (Bk.new W2 _ _) rfl
 have hb13 : Below w1.heap.size w1 W3 := hb2.trans (hb3.mono hb2.size); have HS3 := ah (aO HS1.out hb13); have HB3 : Hid (Below w.heap.size w W3) := HB1.out.trans (hb13.mono HB1.out.size); have HKb3 := ah (HKb.out.below hb3 HKb.out.lt); have HKc3 := ah (HKc.out.below hb3 HKc.out.lt); have HWF : Hid (∀ d ∈ [((c1, c2) : Dig)], WfD d) := fun d hd => by rw [List.mem_singleton.1 hd, <- HDc.out]; exact dL _
 have HC := ah (nL r7 A7 7 c7 [(c1, c2)] (some ⟨w1.heap.size + 1 + 1, 0, none⟩) 1 1 2 ⟨#[]⟩ W3.heap.size W3 HS3.out HL3.out ai qK (by omega) HWF.out (by omega)); simp only [scV] at HC; obtain ⟨x0, x1, _, _⟩ := HKc.out.two; rw [<- hW2] at x0 x1; have HWa := ah hW2; have HWb := ah hW3; clear hW2 hW3 hb2 hb3 e2 hb13 HKb HKc HS1 HB1; go_wp2_with fail; rw [HWa.out, HWb.out]; refine HC.out.mono ?_; rintro e w4 hst; obtain ⟨A6, c6, A2, c2', rfl, hs4, hb4⟩ := GD (by rw [HDc.out]; exact hst); rw [HDb.out] at hs4; have HE4 := ah hs4; have HB4 : Hid (Below w.heap.size w w4) := HB3.out.trans (hb4.mono HB3.out.size); have HS4 := ah (aO HS3.out hb4); have HKb4 := ah (HKb3.out.below hb4 HKb3.out.lt); have HKc4 := ah (HKc3.out.below hb4 HKc3.out.lt); clear hst hs4 hb4 HC x0 x1 HWa HWb HL3 HS3 HB3 HKb3 HKc3; obtain ⟨W5, hW5⟩ : ∃ W, w4.alloc (.cells #[.int .u64 c1, .int .u64 c2] 42) = W := ⟨_, rfl⟩
 have hb5 : Below w4.heap.size w4 W5 := by rw [<- hW5]; exact (Below.refl _ w4).alloc ai _
 have HL5 : Hid (Sl W5 W5.heap.size 2 (some ⟨w4.heap.size, 0, none⟩) 1 (flat dgC [(c1, c2)])) := by rw [<- hW5]; exact Sl.of_bk (n := 1) (size := 2) (Bk.new w4 _ _) rfl
 have HS5 := ah (aO HS4.out hb5); have HE5 := ah (aO HE4.out hb5); have HB5 : Hid (Below w.heap.size w W5) := HB4.out.trans (hb5.mono HB4.out.size); have HKb5 := ah (HKb4.out.below hb5 HKb4.out.lt); have HC := ah (nL r7 A7 7 c7 [(c1, c2)] (some ⟨w4.heap.size, 0, none⟩) 1 1 1 ⟨#[115, 114, 99, 47]⟩ W5.heap.size W5 HS5.out HL5.out ai qK (by omega) HWF.out (by omega)); simp only [scV] at HC; obtain ⟨x0, x1, _, _⟩ := HKc4.out.two; have HWa := ah hW5; clear hW5 hb5 HKc4 HKb4 HS4 HE4 HB4; go_wp2_with fail; rw [HWa.out]; refine HC.out.mono ?_; rintro e w6 hst; obtain ⟨A3, c3, A3', n3, c3', rfl, hb6⟩ := Gx (by rw [HDc.out]; exact hst); have HB6 : Hid (Below w.heap.size w w6) := HB5.out.trans (hb6.mono HB5.out.size); have HE6 := ah (aO HE5.out hb6); have HKb6 := ah (HKb5.out.below hb6 HKb5.out.lt); clear hst hb6 HC x0 x1 HWa HL5 HS5 HB5 HKb5 HE5; obtain ⟨bb, off, x, rfl, hbB, hx, y0, y1⟩ := HE6.out.dg (k := 0) (by omega); simp at hx; subst hx; simp only [Nat.zero_mul, Nat.add_zero] at y0 y1; obtain ⟨x0, x1, _, _⟩ := HKb6.out.two; go_wp2_with fail
 go_quiet (fail)
 go_wp2_with fail; go_ret
 exact ⟨rfl, aM HB6.out _⟩
end
theorem rO (s : ByteArray) (w : World) : Calls Tryz.prog 100 #[.string s] w (iq (aJ (toL s)) w) := by
 have HR : Hid (∀ r, aJ (toL s) = r -> ∀ e w', iq r w e w' -> iq (aJ (toL s)) w e w') := fun r h e w' hh => by rw [h]; exact hh
 have H0 : Hid (aJ (toL s) = gi 6 0 0 1 ((toL s).drop 0)) := rfl
 go_enter Tryz.func100, Tryz.ntmps100
 go_wp2
 go_loop [5, 6, 7] (fun n u i => ∃ k a b : Nat, k <= 6 /\ k <= s.size /\ i = .int .i64 k /\ n = .int .i64 a /\ u = .int .i64 b /\ 1 <= b /\ b <= 128 ^ 6 /\ Hid (b = 128 ^ k) /\ a < b /\ Hid (aJ (toL s) = gi (6 - k) k a b ((toL s).drop k))) (fun _ _ i => 6 - (intOf i).toNat)
 case atStart => exact ⟨0, 0, 1, by omega, by omega, rfl, rfl, rfl, by omega, by omega, rfl, by omega, H0.out⟩
 case round =>
  obtain ⟨k, a, b, hk, hks, rfl, rfl, rfl, hb1, hb2, hb, hab, hg⟩ := hrel; by_cases hlt : k < 6
  . have hf : Hid (6 - k = 5 - k + 1) := by show _ = _; omega
    by_cases hsz : k < s.size
    . have hsz' : ((k : Int) == (s.size : Int)) = false := by rw [beq_eq_false_iff_ne]; omega
      have hbn : Hid (128 * b = 128 ^ (k + 1)) := by show _ = _; rw [hb.out, Nat.pow_succ, Nat.mul_comm]
      have hbp : 128 * b <= 128 ^ 6 := by rw [hbn.out]; exact Nat.pow_le_pow_right (by omega) (by omega)
      have hst : Hid (aJ (toL s) = if s[k].toNat < 128 then (if (s[k].toNat = 0 /\ 0 < k) ∨ 1099511627776 < a + s[k].toNat * b then (0, 0, 13) else (a + s[k].toNat * b, k + 1, 0)) else gi (5 - k) (k + 1) (a + (s[k].toNat - 128) * b) (b * 128) ((toL s).drop (k + 1))) := by
       show _ = _; rw [hg.out, hf.out, tZ hsz, gi]
      have hd : s[k].toNat < 256 := s[k].toNat_lt; generalize hdd : s[k].toNat = d at *; have hdi : (s[k].toNat : Int) = (d : Int) := by rw [hdd]
      clear hdd; by_cases h128 : d < 128
      . obtain ⟨p, hp⟩ : ∃ p, d * b = p := ⟨_, rfl⟩
        have hpb : p <= 128 * b := by rw [<- hp]; exact Nat.mul_le_mul_right _ (by omega)
        have hpi : (b : Int) * (d : Int) = (p : Int) := by rw [<- hp, Int.natCast_mul, Int.mul_comm]
        have hmd : (d : Int) % 128 = (d : Int) := by omega
        have h128i : (d : Int) < 128 := by omega
        rw [hp, if_pos h128] at hst; clear hp; by_cases hmx : 1099511627776 < a + p
        . have hmxi : (1099511627776 : Int) < (a : Int) + (p : Int) := by omega
          have hfin : Hid (aJ (toL s) = (0, 0, 13)) := by show _ = _; rw [hst.out, if_pos (.inr hmx)]
          clear hst hg; by_cases hd0 : d = 0
          . have hd0i : ((d : Int) == 0) = true := by rw [beq_iff_eq]; omega
            clear hd0; by_cases hk0 : (0 : Int) < (k : Int)
            all_goals
             go_wp2
             go_ret3
             exact HR.out _ hfin.out _ _ ⟨rfl, rfl⟩
          . have hd0i : ((d : Int) == 0) = false := by rw [beq_eq_false_iff_ne]; omega
            clear hd0
            go_wp2
            go_ret3
            exact HR.out _ hfin.out _ _ ⟨rfl, rfl⟩
        . have hmxi : ¬ (1099511627776 : Int) < (a : Int) + (p : Int) := by omega
          by_cases hd0 : d = 0
          . have hd0i : ((d : Int) == 0) = true := by rw [beq_iff_eq]; omega
            by_cases hk0 : 0 < k
            . have hk0i : (0 : Int) < (k : Int) := by omega
              have hfin : Hid (aJ (toL s) = (0, 0, 13)) := by show _ = _; rw [hst.out, if_pos (.inl ⟨hd0, hk0⟩)]
              clear hst hg hd0
              go_wp2
              go_ret3
              exact HR.out _ hfin.out _ _ ⟨rfl, rfl⟩
            . have hk0i : ¬ (0 : Int) < (k : Int) := by omega
              have hfin : Hid (aJ (toL s) = (a + p, k + 1, 0)) := by show _ = _; rw [hst.out, if_neg (by omega)]
              clear hst hg hd0
              go_wp2
              go_ret3
              exact HR.out _ hfin.out _ _ ⟨rfl, rfl⟩
          . have hd0i : ((d : Int) == 0) = false := by rw [beq_eq_false_iff_ne]; omega
            have hfin : Hid (aJ (toL s) = (a + p, k + 1, 0)) := by show _ = _; rw [hst.out, if_neg (by omega)]
            clear hst hg hd0; by_cases hk0 : (0 : Int) < (k : Int)
            all_goals
             go_wp2
             go_ret3
             exact HR.out _ hfin.out _ _ ⟨rfl, rfl⟩
      . obtain ⟨p, hp⟩ : ∃ p, (d - 128) * b = p := ⟨_, rfl⟩
        have hpb : p + b <= 128 * b := by
         have : (d - 128 + 1) * b <= 128 * b := Nat.mul_le_mul_right _ (by omega); rw [Nat.add_mul, hp] at this; omega
        have hpi : (b : Int) * ((d : Int) - 128) = (p : Int) := by
         rw [<- hp, Int.natCast_mul, Int.ofNat_sub (by omega), Int.mul_comm]; rfl
        have hmd : (d : Int) % 128 = (d : Int) - 128 := by omega
        have h128i : ¬ (d : Int) < 128 := by omega
        rw [hp, if_neg h128] at hst; clear hp
        go_wp2
        go_round
        case rel => exact ⟨k + 1, a + p, b * 128, by omega, by omega, by go_num, by go_num, by go_num, by omega, by omega, by show _ = _; rw [Nat.mul_comm]; exact hbn.out, by omega, by show _ = _; rw [hst.out, show 6 - (k + 1) = 5 - k by omega]⟩
        case measure => simp [intOf]; omega
    . have hsz' : ((k : Int) == (s.size : Int)) = true := by rw [beq_iff_eq]; omega
      have hfin : Hid (aJ (toL s) = (0, 0, 12)) := by
       show _ = _; rw [hg.out, hf.out, List.drop_of_length_le (by rw [<- bu]; omega), gi]
      clear hg
      go_wp2
      go_ret3
      exact HR.out _ hfin.out _ _ ⟨rfl, rfl⟩
  . have hfin : Hid (aJ (toL s) = (0, 0, 13)) := by
      show _ = _; rw [hg.out, show 6 - k = 0 by omega, gi]
    clear hg
    go_wp2
    go_ret3
    exact HR.out _ hfin.out _ _ ⟨rfl, rfl⟩
theorem yY (s : ByteArray) (hs : s.size <= maxLen) (w : World) : Calls Tryz.prog 101 #[.string s] w (gK (bF (toL s)) w) := by
 unfold maxLen at hs; have HR : Hid (∀ r, bF (toL s) = r -> ∀ e w', gK r w e w' -> gK (bF (toL s)) w e w') := fun r h e w' hh => by rw [h]; exact hh
 have HD : Hid (bF (toL s) = if (aJ (toL s)).2.2 ≠ 0 then ([], 0, (aJ (toL s)).2.2) else if 65536 < (aJ (toL s)).1 then ([], 0, 13) else if (toL s).length < (aJ (toL s)).2.1 + (aJ (toL s)).1 then ([], 0, 12) else (((toL s).drop (aJ (toL s)).2.1).take (aJ (toL s)).1, (aJ (toL s)).2.1 + (aJ (toL s)).1, 0)) := rfl; rw [<- bu] at HD; have hle := oW (toL s); rw [<- bu] at hle; have hmx := oH (toL s)
 go_enter Tryz.func101, Tryz.ntmps101
 go_wp2_with fail; refine (rO s _).mono ?_; generalize aJ (toL s) = r at *; obtain ⟨n, k, e⟩ := r; rintro e' w' ⟨rfl, rfl⟩; simp only at hle hmx HD ⊢; by_cases he : e = 0
 . subst he
   by_cases hn : 65536 < n
   . have hni : (65536 : Int) < (n : Int) := by omega
     have hfin : Hid (bF (toL s) = ([], 0, 13)) := by show _ = _; rw [HD.out, if_neg (by simp), if_pos hn]
     clear HD
     go_wp2
     go_ret3
     exact HR.out _ hfin.out _ _ ⟨rfl, rfl⟩
   . have hni : ¬ (65536 : Int) < (n : Int) := by omega
     by_cases hl : s.size < k + n
     . have hli : (s.size : Int) - (k : Int) < (n : Int) := by omega
       have hfin : Hid (bF (toL s) = ([], 0, 12)) := by show _ = _; rw [HD.out, if_neg (by simp), if_neg hn, if_pos hl]
       clear HD
       go_wp2
       go_ret3
       exact HR.out _ hfin.out _ _ ⟨rfl, rfl⟩
     . have hli : ¬ (s.size : Int) - (k : Int) < (n : Int) := by omega
       have hfin : Hid (bF (toL s) = (((toL s).drop k).take n, k + n, 0)) := by show _ = _; rw [HD.out, if_neg (by simp), if_neg hn, if_neg hl]
       have HX := ah (sJ s k n); clear HD
       go_wp2
       go_ret3
       exact HR.out _ hfin.out _ _ ⟨by rw [<- HX.out]; rfl, rfl⟩
 . have hne : (e != 0) = true := by rw [bne_iff_ne]; exact he
   have hfin : Hid (bF (toL s) = ([], 0, e)) := by show _ = _; rw [HD.out, if_pos he]
   clear HD he
   go_wp2
   go_ret3
   exact HR.out _ hfin.out _ _ ⟨rfl, rfl⟩
abbrev St := Bytes × Bool
def rn (st : St) : Nat × St := if st.2 = true ∨ (aJ st.1).2.2 ≠ 0 then (0, st.1, true) else ((aJ st.1).1, st.1.drop (aJ st.1).2.1, false)
def rt (st : St) : Bytes × St := if st.2 = true ∨ (bF st.1).2.2 ≠ 0 then ([], st.1, true) else ((bF st.1).1, st.1.drop (bF st.1).2.1, false)
def rg (st : St) : Dig × St := if st.2 = true ∨ st.1.length < 16 then (zD, st.1, true) else (dg st.1, st.1.drop 16, false)
theorem jU {k : Nat} (h : k <= 1099511627776) (r : Bytes) : rn (aj k ++ r, false) = (k, r, false) := by
 unfold rn; simp only; rw [jH h r, if_neg (by simp)]; simp
theorem mi {t : Bytes} (h : t.length <= 65536) (r : Bytes) : rt (au t ++ r, false) = (t, r, false) := by
 unfold rt; simp only; rw [lK h r, if_neg (by simp)]; simp
theorem qa {d : Dig} (h : WfD d) (r : Bytes) : rg (ak d ++ r, false) = (d, r, false) := by
 unfold rg; simp only; rw [if_neg (by rw [List.length_append, dU]; simp), lZ h r, List.drop_left' (dU d)]
theorem gZ (st : St) : (rn st).2.1.length <= st.1.length /\ (rn st).1 <= 1099511627776 := by
 unfold rn; split
 . exact ⟨Nat.le_refl _, Nat.zero_le _⟩
 . exact ⟨by simp, oH _⟩
theorem AV (l : Bytes) : (bF l).1.length <= l.length := by
 unfold bF; split
 . simp
 . split
   . simp
   . split
     . simp
     . simp; omega
theorem gX (st : St) : (rt st).2.1.length <= st.1.length /\ (rt st).1.length <= st.1.length := by
 unfold rt; split
 . exact ⟨Nat.le_refl _, Nat.zero_le _⟩
 . exact ⟨by simp, AV _⟩
theorem jT (st : St) : (rg st).2.1.length <= st.1.length /\ WfD (rg st).1 := by
 unfold rg; split
 . exact ⟨Nat.le_refl _, ja⟩
 . exact ⟨by simp, FW _⟩
theorem nH (s : ByteArray) (k : Nat) : s.extract k s.size = ofL ((toL s).drop k) := by
 apply gW
 show (s.extract k s.size).data.toList = (toL s).drop k; rw [ByteArray.data_extract, Array.toList_extract, List.extract_eq_take_drop, List.take_of_length_le]
 . rfl
 . rw [List.length_drop, bu]; exact Nat.le_refl _
def RzE (v : Value) (b : Nat) (st : St) (w : World) (e : Ending) (w' : World) : Prop := e = .returned v /\ Bk w' b 117 #[.string (ofL st.1), .bool st.2] /\ Gb (fun g => g = b) w w'
theorem gF (w : World) (b i : Nat) (x : Value) : Gb (fun g => g = b) w (w.setCell ⟨b, i, none⟩ x) := Gb.set (p := fun g => g = b) (x := b) rfl i x
theorem iD (b : Nat) (r : Bytes) (bad : Bool) (w : World) (hk : Bk w b 117 #[.string (ofL r), .bool bad]) (hl : r.length <= 1000000) :
  Calls Tryz.prog 65 #[.pointer (some ⟨b, 0, none⟩)] w (RzE (.int .i64 ((rn (r, bad)).1 : Nat)) b (rn (r, bad)).2 w) := by
 have HD : Hid (rn (r, bad) = if bad = true ∨ (aJ r).2.2 ≠ 0 then (0, r, true) else ((aJ r).1, r.drop (aJ r).2.1, false)) := rfl; have hle := oW r; obtain ⟨s, hs⟩ : ∃ s, ofL r = s := ⟨_, rfl⟩
 rw [hs] at hk; have htl : toL s = r := by rw [<- hs]; rfl
 have hsz : s.size = r.length := by rw [<- hs]; rfl
 have HG := ah (rO s w); rw [htl] at HG; have HX := ah (nH s (aJ r).2.1); rw [htl] at HX; have HS : Hid (s = ofL r) := hs.symm; have HK := ah hk; obtain ⟨x0, x1, f0, f1⟩ := hk.two; unfold iq at HG; generalize aJ r = g at *; obtain ⟨n, k, e⟩ := g; simp only at HD hle HG HX; rw [<- hsz] at hle; have hki : (k : Int) <= (s.size : Int) := by omega
 have hsm : (s.size : Int) <= 1000000 := by omega
 clear hk hs htl hsz hl; have fin : ∀ q, rn (r, bad) = q -> ∀ v' w', (∃ p : St, q.2 = p /\ (.int .i64 (q.1 : Nat)) = v' /\ Bk w' b 117 #[.string (ofL p.1), .bool p.2] /\ Gb (fun g => g = b) w w') -> RzE (.int .i64 ((rn (r, bad)).1 : Nat)) b (rn (r, bad)).2 w (.returned v') w' := fun q hq v' w' ⟨p, h1, h2, h3, h4⟩ => by rw [hq]; exact ⟨by rw [h2], by rw [h1]; exact h3, h4⟩
 have FIN := ah fin; clear fin
 go_enter Tryz.func65, Tryz.ntmps65
 go_wp2_with fail; refine HG.out.mono ?_; rintro e' w' ⟨rfl, rfl⟩; by_cases hb : bad = true ∨ e ≠ 0
 . have HQ : Hid (rn (r, bad) = (0, r, true)) := by show _ = _; rw [HD.out, if_pos hb]
   have hfin : Bk (w.setCell ⟨b, 1, none⟩ (.bool true)) b 117 #[.string (ofL r), .bool true] := by
    have := HK.out.set 1 (.bool true); rw [HS.out] at this; simpa using this
   have HF := ah hfin; clear hfin HD; cases bad with
   | true =>
     clear hb; go_wp2_with fail; go_ret
     exact FIN.out _ HQ.out _ _ ⟨_, rfl, rfl, HF.out, gF _ _ _ _⟩
   | false =>
     have he : (e != 0) = true := by rw [bne_iff_ne]; simpa using hb
     clear hb; go_wp2_with fail; go_ret
     exact FIN.out _ HQ.out _ _ ⟨_, rfl, rfl, HF.out, gF _ _ _ _⟩
 . have HQ : Hid (rn (r, bad) = (n, r.drop k, false)) := by show _ = _; rw [HD.out, if_neg hb]
   obtain rfl : bad = false := by cases bad <;> simp at hb ⊢
   have he : e = 0 := by simpa using hb
   subst he; have hfin : Bk (w.setCell ⟨b, 0, none⟩ (.string (s.extract k s.size))) b 117 #[.string (ofL (r.drop k)), .bool false] := by
    have := HK.out.set 0 (.string (s.extract k s.size)); rw [<- HX.out]; simpa using this
   have HF := ah hfin; clear hfin HD hb; go_wp2_with fail; go_ret
   exact FIN.out _ HQ.out _ _ ⟨_, rfl, rfl, HF.out, gF _ _ _ _⟩
theorem iH (b : Nat) (r : Bytes) (bad : Bool) (w : World) (hk : Bk w b 117 #[.string (ofL r), .bool bad]) (hl : r.length <= 1000000) :
  Calls Tryz.prog 66 #[.pointer (some ⟨b, 0, none⟩)] w (RzE (.string (ofL (rt (r, bad)).1)) b (rt (r, bad)).2 w) := by
 have HD : Hid (rt (r, bad) = if bad = true ∨ (bF r).2.2 ≠ 0 then ([], r, true) else ((bF r).1, r.drop (bF r).2.1, false)) := rfl; have hle := Em r; obtain ⟨s, hs⟩ : ∃ s, ofL r = s := ⟨_, rfl⟩
 rw [hs] at hk; have htl : toL s = r := by rw [<- hs]; rfl
 have hsz : s.size = r.length := by rw [<- hs]; rfl
 have HG := ah (yY s (by unfold maxLen; omega) w); rw [htl] at HG; have HX := ah (nH s (bF r).2.1); rw [htl] at HX; have HS : Hid (s = ofL r) := hs.symm; have HK := ah hk; obtain ⟨x0, x1, f0, f1⟩ := hk.two; unfold gK at HG; generalize bF r = g at *; obtain ⟨n, k, e⟩ := g; simp only at HD hle HG HX; rw [<- hsz] at hle; have hki : (k : Int) <= (s.size : Int) := by omega
 have hsm : (s.size : Int) <= 1000000 := by omega
 clear hk hs htl hsz hl; have fin : ∀ q, rt (r, bad) = q -> ∀ v' w', (∃ p : St, q.2 = p /\ (.string (ofL q.1)) = v' /\ Bk w' b 117 #[.string (ofL p.1), .bool p.2] /\ Gb (fun g => g = b) w w') -> RzE (.string (ofL (rt (r, bad)).1)) b (rt (r, bad)).2 w (.returned v') w' := fun q hq v' w' ⟨p, h1, h2, h3, h4⟩ => by rw [hq]; exact ⟨by rw [h2], by rw [h1]; exact h3, h4⟩
 have FIN := ah fin; clear fin
 go_enter Tryz.func66, Tryz.ntmps66
 go_wp2_with fail; refine HG.out.mono ?_; rintro e' w' ⟨rfl, rfl⟩; by_cases hb : bad = true ∨ e ≠ 0
 . have HQ : Hid (rt (r, bad) = ([], r, true)) := by show _ = _; rw [HD.out, if_pos hb]
   have hfin : Bk (w.setCell ⟨b, 1, none⟩ (.bool true)) b 117 #[.string (ofL r), .bool true] := by
    have := HK.out.set 1 (.bool true); rw [HS.out] at this; simpa using this
   have HF := ah hfin; clear hfin HD; cases bad with
   | true =>
     clear hb; go_wp2_with fail; go_ret
     exact FIN.out _ HQ.out _ _ ⟨_, rfl, rfl, HF.out, gF _ _ _ _⟩
   | false =>
     have he : (e != 0) = true := by rw [bne_iff_ne]; simpa using hb
     clear hb; go_wp2_with fail; go_ret
     exact FIN.out _ HQ.out _ _ ⟨_, rfl, rfl, HF.out, gF _ _ _ _⟩
 . have HQ : Hid (rt (r, bad) = (n, r.drop k, false)) := by show _ = _; rw [HD.out, if_neg hb]
   obtain rfl : bad = false := by cases bad <;> simp at hb ⊢
   have he : e = 0 := by simpa using hb
   subst he; have hfin : Bk (w.setCell ⟨b, 0, none⟩ (.string (s.extract k s.size))) b 117 #[.string (ofL (r.drop k)), .bool false] := by
    have := HK.out.set 0 (.string (s.extract k s.size)); rw [<- HX.out]; simpa using this
   have HF := ah hfin; clear hfin HD hb; go_wp2_with fail; go_ret
   exact FIN.out _ HQ.out _ _ ⟨_, rfl, rfl, HF.out, gF _ _ _ _⟩
theorem nN (b : Nat) (r : Bytes) (bad : Bool) (w : World) (hk : Bk w b 117 #[.string (ofL r), .bool bad]) (hl : r.length <= 1000000) :
  Calls Tryz.prog 67 #[.pointer (some ⟨b, 0, none⟩)] w (RzE (az (rg (r, bad)).1) b (rg (r, bad)).2 w) := by
 have hbw := hk.lt; have HD : Hid (rg (r, bad) = if bad = true ∨ r.length < 16 then (zD, r, true) else (dg r, r.drop 16, false)) := rfl; obtain ⟨s, hs⟩ : ∃ s, ofL r = s := ⟨_, rfl⟩
 rw [hs] at hk; have htl : toL s = r := by rw [<- hs]; rfl
 have hsz : s.size = r.length := by rw [<- hs]; rfl
 have HX := ah (nH s 16); rw [htl] at HX; have HS : Hid (s = ofL r) := hs.symm; have HE := ah (xR r); have HTL := ah htl; obtain ⟨W0, hW0⟩ : ∃ W0, (w.alloc (.cells #[.int .u64 0, .int .u64 0] 42)).alloc (.cells #[.int .u64 0, .int .u64 0] 42) = W0 := ⟨_, rfl⟩
 have HK0 : Hid (Bk W0 w.heap.size 42 #[.int .u64 0, .int .u64 0]) := by rw [<- hW0]; exact (Bk.new w _ _).alloc _
 have HK1 : Hid (Bk W0 (w.heap.size + 1) 42 #[.int .u64 0, .int .u64 0]) := by
  rw [<- hW0]; have := Bk.new (w.alloc (.cells #[.int .u64 0, .int .u64 0] 42)) 42 #[.int .u64 0, .int .u64 0]
  rwa [World.size_alloc] at this
 have HB : Hid (Below w.heap.size w W0) := by rw [<- hW0]; exact ((Below.refl _ w).alloc ai _).alloc (by simp) _
 have HR := ah hk; have hk0 := hk.below HB.out hbw; obtain ⟨x0, x1, xf0, xf1⟩ := hk0.two; obtain ⟨y0, y1, y2, y3⟩ := HK1.out.two; obtain ⟨z0, z1, e0, e1⟩ := HK0.out.two; rw [<- hW0] at x0 x1 xf0 xf1 y0 y1 y2 y3 z0 z1 e0 e1; have HW := ah hW0; clear hW0; have HKR := ah hk0; have hne1 : b ≠ w.heap.size := by omega
 have hne2 : b ≠ w.heap.size + 1 := by omega
 have fin : ∀ q, rg (r, bad) = q -> ∀ v' w', (∃ p : St, q.2 = p /\ az q.1 = v' /\ Bk w' b 117 #[.string (ofL p.1), .bool p.2] /\ Gb (fun g => g = b) w w') -> RzE (az (rg (r, bad)).1) b (rg (r, bad)).2 w (.returned v') w' := fun q hq v' w' ⟨p, h1, h2, h3, h4⟩ => by rw [hq]; exact ⟨by rw [h2], by rw [h1]; exact h3, h4⟩
 have FIN := ah fin; rw [<- hsz] at hl; have HSZ := ah hsz; clear hk hk0 hs htl fin hsz
 go_enter Tryz.func67, Tryz.ntmps67
 by_cases hb : bad = true ∨ r.length < 16
 . have HQ : Hid (rg (r, bad) = (zD, r, true)) := by show _ = _; rw [HD.out, if_pos hb]
   clear HD HX HE; have zs1 : (w.setCell ⟨b, 1, none⟩ (.bool true)).heap.size = w.heap.size := by simp [World.setCell]
   have HF : Hid (Bk (((w.setCell ⟨b, 1, none⟩ (.bool true)).alloc (.cells #[.int .u64 0, .int .u64 0] 42)).alloc (.cells #[.int .u64 0, .int .u64 0] 42)) b 117 #[.string (ofL r), .bool true]) := by
    have := ((HR.out.set 1 (.bool true)).alloc (.cells #[.int .u64 0, .int .u64 0] 42)).alloc (.cells #[.int .u64 0, .int .u64 0] 42); rw [HS.out] at this; show Bk _ _ _ _; simpa using this
   have HFZ : Hid (Bk (((w.setCell ⟨b, 1, none⟩ (.bool true)).alloc (.cells #[.int .u64 0, .int .u64 0] 42)).alloc (.cells #[.int .u64 0, .int .u64 0] 42)) w.heap.size 42 #[.int .u64 0, .int .u64 0]) := by
    have := (Bk.new (w.setCell ⟨b, 1, none⟩ (.bool true)) 42 #[.int .u64 0, .int .u64 0]).alloc (.cells #[.int .u64 0, .int .u64 0] 42); rw [zs1] at this; exact this
   have HFG : Hid (Gb (fun g => g = b) w (((w.setCell ⟨b, 1, none⟩ (.bool true)).alloc (.cells #[.int .u64 0, .int .u64 0] 42)).alloc (.cells #[.int .u64 0, .int .u64 0] 42))) := (gF w b 1 _).trans (Gb.of_below (((Below.refl _ _).alloc ai _).alloc (by simp) _)); clear zs1; cases bad with
   | true =>
     clear hb; go_wp2_with fail; exact bodyPost_ret (fH Tryz.results67 rfl HFZ.out) rfl (FIN.out _ HQ.out _ _ ⟨_, rfl, rfl, HF.out, HFG.out⟩)
   | false =>
     have h16 : (s.size : Int) < 16 := by
      rcases hb with hb | hb
      . cases hb
      . have := HSZ.out; omega
     clear hb; go_wp2_with fail; exact bodyPost_ret (fH Tryz.results67 rfl HFZ.out) rfl (FIN.out _ HQ.out _ _ ⟨_, rfl, rfl, HF.out, HFG.out⟩)
 . have HQ : Hid (rg (r, bad) = (dg r, r.drop 16, false)) := by show _ = _; rw [HD.out, if_neg hb]
   have hbf : bad = false := by
    cases bad with
    | false => rfl
    | true => exact absurd (.inl rfl) hb
   have h16' : ¬ r.length < 16 := fun h => hb (.inr h); have h16 : 16 <= s.size := by have := HSZ.out; omega
   subst hbf; clear h16'; have h16i : ¬ (s.size : Int) < 16 := by omega
   have h16j : (16 : Int) <= (s.size : Int) := by omega
   clear HD hb; go_wp2_with fail; rw [HW.out]; clear x0 x1 xf0 xf1 y0 y1 y2 y3 z0 z1 e0 e1
   go_loopw [4] (fun i wr => ∃ k : Nat, k <= 16 /\ i = .int .i64 k /\ Hid (Bk wr w.heap.size 42 #[.int .u64 0, .int .u64 0]) /\ Hid (Bk wr (w.heap.size + 1) 42 #[.int .u64 (wd1 r k), .int .u64 (wd2 r k)]) /\ Hid (Below w.heap.size w wr)) (fun i _ => 16 - (intOf i).toNat)
   case atStart => exact ⟨0, by omega, rfl, HK0.out, HK1.out, HB.out⟩
   case round =>
    obtain ⟨k, hk, rfl, J0, J1, hB⟩ := hrel; obtain ⟨x0, x1, xf0, xf1⟩ := (HR.out.below hB.out hbw).two; by_cases hlt : k < 16
    . have hks : k < s.size := by omega
      have hd : s[k].toNat < 256 := s[k].toNat_lt; have hki : (k : Int) < 16 := by omega
      have hbg : r[k]? = some s[k] := by rw [<- HTL.out]; exact oo hks
      by_cases h8 : k < 8
      . have hx := xq (l := r) h8
        obtain ⟨e1, e2⟩ := uZ hbg h8; have HE1 := ah e1; have HE2 := ah e2; have y0 := J1.out.cell 0; have y1 := J1.out.cell 1; have f0 := J1.out.free 0; simp at y0 y1; clear e1 e2 hbg HX HQ HE; have hq : (k : Int) / 8 = 0 := by omega
        generalize wd1 r k = x at *; generalize wd2 r k = y at *; go_wp2_with fail
        go_region
        go_wp2_with fail; go_roundw
        case rel => exact ⟨k + 1, by omega, by go_num, J0.out.far (p := ⟨w.heap.size + 1, 0, none⟩) (by simp) _, by show Bk _ _ _ _; rw [HE1.out, HE2.out]; exact J1.out.set 0 _, (hB.out.setCell (p := ⟨w.heap.size + 1, 0, none⟩) (by simp) _).drew⟩
        case measure => simp [intOf]; omega
      . have hx := xA (l := r) hlt
        obtain ⟨e1, e2⟩ := vJ hbg (by omega); have HE1 := ah e1; have HE2 := ah e2; have y0 := J1.out.cell 0; have y1 := J1.out.cell 1; have f1 := J1.out.free 1; simp at y0 y1; clear e1 e2 hbg HX HQ HE; have hq : (k : Int) / 8 = 1 := by omega
        generalize wd1 r k = x at *; generalize wd2 r k = y at *; go_wp2_with fail
        go_region
        go_wp2_with fail; go_roundw
        case rel => exact ⟨k + 1, by omega, by go_num, J0.out.far (p := ⟨w.heap.size + 1, 1, none⟩) (by simp) _, by show Bk _ _ _ _; rw [HE1.out, HE2.out]; exact J1.out.set 1 _, (hB.out.setCell (p := ⟨w.heap.size + 1, 1, none⟩) (by simp) _).drew⟩
        case measure => simp [intOf]; omega
    . have hke : Hid (k = 16) := by show _ = _; omega
      have hki : ¬ (k : Int) < 16 := by omega
      have HX2 : Hid (dg r = ((wd1 r k : Int), (wd2 r k : Int))) := by show _ = _; rw [hke.out]; exact HE.out
      have HRr := ah (HR.out.below hB.out hbw); obtain ⟨y0, y1, _, _⟩ := J1.out.two; obtain ⟨z0, z1, f0, f1⟩ := J0.out.two; generalize wd1 r k = x at *; generalize wd2 r k = y at *; clear hlt HE; go_wp2_with fail; refine bodyPost_ret (fH Tryz.results67 rfl ((J0.out.far (p := ⟨b, 0, none⟩) hne1.symm _).set2 _ _)) rfl (FIN.out _ HQ.out _ _ ⟨_, rfl, by rw [HX2.out]; rfl, ?_, ((((Gb.of_below hB.out).trans (gF _ _ _ _)).after ai 0 _).after ai 1 _)⟩); rw [<- HX.out]; have := (((HRr.out.set 0 (.string (s.extract 16 s.size))).far (p := ⟨w.heap.size, 0, none⟩) hne1 (.int .u64 x)).far (p := ⟨w.heap.size, 1, none⟩) hne1 (.int .u64 y))
      simpa using this
def rE : Nat -> St -> List Ent × St
 | 0, st => ([], st)
 | m + 1, st => if st.2 = true then ([], st) else (⟨ofL (rt st).1, decide ((rn (rt st).2).1 = 1), (rg (rn (rt st).2).2).1⟩ :: (rE m (rg (rn (rt st).2).2).2).1, (rE m (rg (rn (rt st).2).2).2).2)
def rD : Nat -> St -> List Dig × St
 | 0, st => ([], st)
 | m + 1, st => if st.2 = true then ([], st) else ((rg st).1 :: (rD m (rg st).2).1, (rD m (rg st).2).2)
def pz7 (s : Bytes) : Ob × St :=
 let k := rn (s, false)
 if k.1 = 2 then
  let n := rn k.2
  let q := rE n.1 n.2
  (⟨2, ⟨#[]⟩, q.1, zD, [], ⟨#[]⟩, 0, ⟨#[]⟩⟩, q.2)
 else if k.1 = 3 then
  let t := rg k.2
  let n := rn t.2
  let q := rD n.1 n.2
  let a := rt q.2
  let i := rn a.2
  let m := rt i.2
  (⟨3, ⟨#[]⟩, [], t.1, q.1, ofL a.1, (i.1 : Int), ofL m.1⟩, m.2)
 else
  let t := rt k.2
  (⟨(k.1 : Int), ofL t.1, [], zD, [], ⟨#[]⟩, 0, ⟨#[]⟩⟩, t.2)
theorem xx : ∀ (l : List Ent) (r : Bytes), (∀ e ∈ l, dM e) -> rE l.length (l.flatMap aH ++ r, false) = (l, r, false)
 | [], r, _ => rfl
 | e :: l, r, h => by
   have he := h e (by simp); have hns := dw he.nm; rw [bu] at hns; have h1 : rt ((e :: l).flatMap aH ++ r, false) = (toL e.nm, aj (if e.dir = true then 1 else 0) ++ (ak e.dg ++ (l.flatMap aH ++ r)), false) := by
    rw [List.flatMap_cons]; unfold aH; simp only [List.append_assoc]; exact mi (by omega) _
   have h2 : rn (aj (if e.dir = true then 1 else 0) ++ (ak e.dg ++ (l.flatMap aH ++ r)), false) = (if e.dir = true then 1 else 0, ak e.dg ++ (l.flatMap aH ++ r), false) := jU (by split <;> omega) _; have h3 : rg (ak e.dg ++ (l.flatMap aH ++ r), false) = (e.dg, l.flatMap aH ++ r, false) := qa he.dg _; have ih := xx l r (fun x hx => h x (by simp [hx])); rw [List.length_cons, rE, if_neg (by simp), h1]; simp only; rw [h2]; simp only; rw [h3]; simp only; rw [ih]; obtain ⟨nm, dir, dg⟩ := e; cases dir <;> simp [fu]
theorem xH : ∀ (l : List Dig) (r : Bytes), (∀ d ∈ l, WfD d) -> rD l.length (l.flatMap ak ++ r, false) = (l, r, false)
 | [], r, _ => rfl
 | d :: l, r, h => by
   have h3 : rg ((d :: l).flatMap ak ++ r, false) = (d, l.flatMap ak ++ r, false) := by
    rw [List.flatMap_cons, List.append_assoc]; exact qa (h d (by simp)) _
   have ih := xH l r (fun x hx => h x (by simp [hx])); rw [List.length_cons, rD, if_neg (by simp), h3]; simp only; rw [ih]
theorem vW {o : Ob} (h : OkO o) : pz7 (aB o) = (o, [], false) := by
 have hk := h.f.kind_le; have h0 : rn (aB o, false) = (o.kind.toNat, bW o, false) := by unfold aB; exact jU (by omega) _
 unfold pz7; simp only [h0]; cases h.f with
 | blob k e c d =>
   rw [if_neg (by omega), if_neg (by omega)]; have h1 : rt (bW o, false) = (toL o.data, [], false) := by
    unfold bW; rw [if_neg (by omega), if_neg (by omega), <- List.append_nil (au (toL o.data))]; exact mi (by rw [<- bu]; exact d) _
   simp only [h1]; obtain ⟨c1, c2, c3, c4, c5⟩ := c; obtain ⟨kind, data, ents, tree, pars, auth, time, msg⟩ := o; simp only at e c1 c2 c3 c4 c5 hk; subst e c1 c2 c3 c4 c5; have : ((kind.toNat : Nat) : Int) = kind := by omega
   simp only [fu, this]
 | tree k d c e =>
   rw [if_pos (by omega)]; have h1 : rn (bW o, false) = (o.ents.length, o.ents.flatMap aH ++ [], false) := by
    unfold bW; rw [if_pos k, List.append_nil]; exact jU (by have := e.few; omega) _
   have h2 := xx o.ents [] e.all; simp only [h1, h2]; obtain ⟨c1, c2, c3, c4, c5⟩ := c; obtain ⟨kind, data, ents, tree, pars, auth, time, msg⟩ := o; simp only at k d c1 c2 c3 c4 c5; subst k d c1 c2 c3 c4 c5; rfl
 | commit k d e c =>
   rw [if_neg (by omega), if_pos (by omega)]; have hau := dw c.auth; have hmg := c.msg; have ht0 := c.t0; have ht1 := c.t1; rw [bu] at hau hmg; have h1 : rg (bW o, false) = (o.tree, aj o.pars.length ++ (o.pars.flatMap ak ++ (au (toL o.auth) ++ (aj o.time.toNat ++ (au (toL o.msg) ++ [])))), false) := by
    unfold bW; rw [if_neg (by omega), if_pos k, List.append_nil]; exact qa c.wf _
   have h2 : rn (aj o.pars.length ++ (o.pars.flatMap ak ++ (au (toL o.auth) ++ (aj o.time.toNat ++ (au (toL o.msg) ++ [])))), false) = _ := jU (by have := c.pars.few; omega) _; have h3 := xH o.pars (au (toL o.auth) ++ (aj o.time.toNat ++ (au (toL o.msg) ++ []))) c.pars.wf; have h4 : rt (au (toL o.auth) ++ (aj o.time.toNat ++ (au (toL o.msg) ++ [])), false) = _ := mi (by omega) _; have h5 : rn (aj o.time.toNat ++ (au (toL o.msg) ++ []), false) = _ := jU (by omega) _; have h6 : rt (au (toL o.msg) ++ [], false) = _ := mi (by omega) _; simp only [h1, h2, h3, h4, h5, h6]; obtain ⟨kind, data, ents, tree, pars, auth, time, msg⟩ := o; simp only at k d e ht0; subst k d e; have : ((time.toNat : Nat) : Int) = time := by omega
   simp only [fu, this]
theorem qD : ∀ (m : Nat) (st : St), (∀ e ∈ (rE m st).1, e.nm.size <= st.1.length /\ WfD e.dg) /\ (rE m st).2.1.length <= st.1.length
 | 0, st => ⟨(fun e h => by cases h), Nat.le_refl _⟩
 | m + 1, st => by
   rw [rE]; split
   . exact ⟨(fun e h => by cases h), Nat.le_refl _⟩
   . have h1 := gX st
     have h2 := gZ (rt st).2; have h3 := jT (rn (rt st).2).2; obtain ⟨i1, i2⟩ := qD m (rg (rn (rt st).2).2).2; refine ⟨fun e he => ?_, by simp only; omega⟩; rcases List.mem_cons.1 he with rfl | he
     . exact ⟨by simp only [bN]; omega, h3.2⟩
     . have := i1 e he; exact ⟨by omega, this.2⟩
theorem qC : ∀ (m : Nat) (st : St), (∀ d ∈ (rD m st).1, WfD d) /\ (rD m st).2.1.length <= st.1.length
 | 0, st => ⟨(fun e h => by cases h), Nat.le_refl _⟩
 | m + 1, st => by
   rw [rD]; split
   . exact ⟨(fun e h => by cases h), Nat.le_refl _⟩
   . have h3 := jT st
     obtain ⟨i1, i2⟩ := qC m (rg st).2; refine ⟨fun e he => ?_, by simp only; omega⟩; rcases List.mem_cons.1 he with rfl | he
     . exact h3.2
     . exact i1 e he
theorem kT (d : Dig) (w : World) : Calls Tryz.prog 166 #[az d] w fun e w' => e = .returned (.bool (decide (d = zD))) /\ Below w.heap.size w w' := by
 obtain ⟨a, b⟩ := d; have hde := iW (a, b) zD; simp only [zD] at hde; have HB0 : Hid (Below w.heap.size w (w.alloc (.cells #[.int .u64 a, .int .u64 b] 42))) := (Below.refl _ w).alloc ai _; have hk : Bk (w.alloc (.cells #[.int .u64 a, .int .u64 b] 42)) w.heap.size 42 #[.int .u64 a, .int .u64 b] := Bk.new w _ _; obtain ⟨x0, x1, _, _⟩ := hk.two; clear hk; unfold az; simp only; have HD : Hid (decide ((a, b) = zD) = (a == 0 && b == 0)) := hde.symm; clear hde; cases h0 : (a == 0) with
 | false =>
   have HF : Hid (decide ((a, b) = zD) = false) := by show _ = _; rw [HD.out, h0]; rfl
   go_enter Tryz.func166, Tryz.ntmps166
   go_wp2_with fail; go_ret
   exact ⟨aZ HF.out.symm, HB0.out⟩
 | true =>
   cases h1 : (b == 0) with
   | false =>
     have HF : Hid (decide ((a, b) = zD) = false) := by show _ = _; rw [HD.out, h0, h1]; rfl
     go_enter Tryz.func166, Tryz.ntmps166
     go_wp2_with fail; go_ret
     exact ⟨aZ HF.out.symm, HB0.out⟩
   | true =>
     have HF : Hid (decide ((a, b) = zD) = true) := by show _ = _; rw [HD.out, h0, h1]; rfl
     go_enter Tryz.func166, Tryz.ntmps166
     go_wp2_with fail; go_ret
     exact ⟨aZ HF.out.symm, HB0.out⟩
structure UpE (l : List Ent) (k : Nat) : Prop where
 all : ∀ e ∈ l.take k, dM e
 asc : ∀ (j : Nat) a b, j + 1 < k -> l[j]? = some a -> l[j + 1]? = some b -> less a.nm b.nm = true
theorem UpE.start (l : List Ent) : UpE l 0 := ⟨fun e h => by simp at h, fun j a b h => absurd h (by omega)⟩
theorem UpE.step {l : List Ent} {k : Nat} {x : Ent} (h : UpE l k) (hx : l[k]? = some x) (hok : dM x) (hl : ∀ j a, k = j + 1 -> l[j]? = some a -> less a.nm x.nm = true) : UpE l (k + 1) := by
 refine ⟨fun e he => ?_, fun j a b hj ha hb => ?_⟩
 . rw [bA hx] at he
   rcases List.mem_append.1 he with he | he
   . exact h.all e he
   . rw [List.mem_singleton.1 he]; exact hok
 . by_cases e : j + 1 = k
   . subst e; rw [hx] at hb; cases hb; exact hl j a rfl ha
   . exact h.asc j a b (by omega) ha hb
def ChE (p : Prop) (w : World) (e : Ending) (w' : World) : Prop := ∃ z : Int, e = .returned (.int .i64 z) /\ (z = 0 ↔ p) /\ Below w.heap.size w w'
theorem ChE.no {p : Prop} {w w' : World} {z : Int} (hz : z ≠ 0) (hp : ¬ p) (hb : Below w.heap.size w w') : ChE p w (.returned (.int .i64 z)) w' := ⟨z, rfl, ⟨fun e => absurd e hz, fun h => absurd h hp⟩, hb⟩
theorem ChE.yes {p : Prop} {w w' : World} (hp : p) (hb : Below w.heap.size w w') : ChE p w (.returned (.int .i64 0)) w' := ⟨0, rfl, ⟨fun _ => hp, fun _ => rfl⟩, hb⟩
theorem zx (A : OA) (n c B : Nat) (l : List Ent) (w : World) (h0 : Sl w B 4 A n (flat enC l)) (hB : B <= w.heap.size) (hn : n <= maxLen) (hsz : ∀ e ∈ l, e.nm.size <= 1000000) (hwf : ∀ e ∈ l, WfD e.dg) :
  Calls Tryz.prog 145 #[.slice A n c] w (ChE (dP l) w) := by
 unfold maxLen at hn; have HL := ah (h0.len ma (by omega)); have H0 := ah h0; have HSZ := ah hsz; have HWF := ah hwf; clear h0 hsz hwf
 go_enter Tryz.func145, Tryz.ntmps145
 by_cases hbig : 200 < n
 . have hnz : (200 : Int) < (n : Int) := by omega
   have HN : Hid (¬ dP l) := fun h => by have := h.few; have := HL.out; omega
   clear hbig; go_wp2_with fail; go_ret
   exact ChE.no (by decide) HN.out (Below.refl _ _)
 have hnz : ¬ (200 : Int) < (n : Int) := by omega
 go_wp2_with fail
 go_loopw [3] (fun i wr => ∃ k : Nat, i = .int .i64 (k : Int) /\ k <= n /\ Hid (UpE l k) /\ Hid (Below w.heap.size w wr)) (fun i _ => n - (intOf i).toNat)
 case atStart => exact ⟨0, rfl, Nat.zero_le _, UpE.start l, Below.refl _ _⟩
 case round =>
  obtain ⟨k, rfl, hk, hU, hbw⟩ := hrel; have zwr := hbw.out.size; by_cases hlt : k < n
  . have hlz : (k : Int) < (n : Int) := by omega
    obtain ⟨bb, off, en, rfl, hbB, he, y0, y1, y2, y3⟩ := (H0.out.below hbw.out hB).en hlt; have HE := ah he; have HM := ah (List.mem_of_getElem? he); have hsn := HSZ.out en HM.out; cases hnm : aT en.nm with
    | false =>
      have HN : Hid (¬ dP l) := fun h => by have := (h.all en HM.out).nm; rw [hnm] at this; cases this
      obtain ⟨nm, dir, d1, d2⟩ := en; simp only at hsn hnm y0 y1 y2 y3; clear he
      go_wp2_with (first | (go_at_call 167; refine (jr nm _ (by unfold maxLen; omega)).mono ?_; rintro e w1 ⟨rfl, rfl⟩; rw [hnm]))
      go_ret
      exact ChE.no (by decide) HN.out hbw.out
    | true =>
      have HNX : Hid (∀ j, k = j + 1 -> ∃ p, l[j]? = some p /\ wr.cell? ⟨bb, off + j * 4, none⟩ = some (.string p.nm)) := by
       intro j hj; obtain ⟨bb', off', p, hpe, _, hp, z0, _⟩ := (H0.out.below hbw.out hB).en (k := j) (by omega); cases hpe
       exact ⟨p, hp, z0⟩
      have HZ := ah (fun W => kT en.dg W); have HNM := ah hnm; have HEQ : Hid (∀ e2 : Ent, e2 = en -> l[k]? = some e2) := fun e2 h => by rw [h]; exact HE.out
      obtain ⟨en', hen'⟩ : ∃ e, e = en := ⟨en, rfl⟩
      have HEN := ah hen'; obtain ⟨nm, dir, d1, d2⟩ := en; simp only at hsn hnm y0 y1 y2 y3 HZ HNM; unfold az at HZ; clear he hen'
      go_upto_region 8 with (first | (go_at_call 167; refine (jr nm _ (by unfold maxLen; omega)).mono ?_; rintro e w1 ⟨rfl, rfl⟩; rw [hnm]))
      cases k with
      | zero =>
        have HOR : Hid (∀ j a, (0 : Nat) = j + 1 -> l[j]? = some a -> less a.nm nm = true) := fun j a h => by omega
        go_quiet (fail)
        go_wp2_with (first | (go_at_call 166; refine (HZ.out _).mono ?_; rintro e w3 ⟨rfl, hb3⟩; refine aI ?_))
        refine aC ?_; have HB3 := ah ((aM hbw.out _).trans (hb3.mono (by have := hbw.out.size; simp; omega))); clear hb3; cases hz : decide (((d1, d2) : Dig) = zD) with
        | true =>
          have HN : Hid (¬ dP l) := fun h => (h.all _ HM.out).nz (of_decide_eq_true hz); clear hz; go_wp2_with fail; go_ret
          exact ChE.no (by decide) HN.out HB3.out
        | false =>
          have HU2 : Hid (UpE l (0 + 1)) := hU.out.step HE.out ⟨HNM.out, HWF.out _ HM.out, of_decide_eq_false hz⟩ HOR.out; clear hz; go_wp2_with fail; go_roundw
          case rel => exact ⟨0 + 1, by go_num, hlt, HU2.out, HB3.out⟩
          case measure => simp [intOf]; omega
      | succ j =>
        obtain ⟨p, HPJ, z0⟩ := HNX.out j rfl; have HPJ := ah HPJ; have hkp : (0 : Int) < ((j + 1 : Nat) : Int) := by omega
        have hw1 : IntKind.i64.wrap (((j + 1 : Nat) : Int) - 1) = (j : Int) := by rw [lW (by omega) (by omega)]; omega
        have hj1 : ¬ (j : Int) < 0 := by omega
        have hj2 : (j : Int) < (n : Int) := by omega
        have hj3 : ¬ ((j + 1 : Nat) : Int) < 0 := by omega
        have l1 := kZ nm p.nm; have l2 := kZ p.nm nm; have l3 := dx nm p.nm; have l4 := dx p.nm nm; cases hls : less p.nm nm with
        | true =>
          have HOR : Hid (∀ i a, (j + 1 : Nat) = i + 1 -> l[i]? = some a -> less a.nm nm = true) := fun i a h ha => by
           obtain rfl : j = i := by omega
           rw [HPJ.out] at ha; cases ha; exact hls
          rw [sH hls] at l1; rw [hls] at l2; rw [decide_eq_false (fun e => iN hls e.symm)] at l3; rw [decide_eq_false (iN hls)] at l4; clear hls
          go_quiet (fail)
          go_wp2_with (first | (go_at_call 166; refine (HZ.out _).mono ?_; rintro e w3 ⟨rfl, hb3⟩; refine aI ?_))
          refine aC ?_; have HB3 := ah ((aM hbw.out _).trans (hb3.mono (by have := hbw.out.size; simp; omega))); clear hb3; cases hz : decide (((d1, d2) : Dig) = zD) with
          | true =>
            have HN : Hid (¬ dP l) := fun h => (h.all _ HM.out).nz (of_decide_eq_true hz); clear hz; go_wp2_with fail; go_ret
            exact ChE.no (by decide) HN.out HB3.out
          | false =>
            have HU2 : Hid (UpE l ((j + 1) + 1)) := hU.out.step HE.out ⟨HNM.out, HWF.out _ HM.out, of_decide_eq_false hz⟩ HOR.out; clear hz; go_wp2_with fail; go_roundw
            case rel => exact ⟨(j + 1) + 1, by go_num, hlt, HU2.out, HB3.out⟩
            case measure => simp [intOf]; omega
        | false =>
          have HN : Hid (¬ dP l) := fun h => by
           have := h.asc j p _ HPJ.out HE.out; simp only at this; rw [hls] at this; cases this
          rw [hls] at l2; cases hl2 : less nm p.nm with
          | true =>
            rw [hl2] at l1; rw [decide_eq_false (iN hl2)] at l3; rw [decide_eq_false (fun e => iN hl2 e.symm)] at l4; clear hls hl2
            go_quiet (fail)
            go_wp2_with fail; go_ret
            exact ChE.no (by decide) HN.out (aM hbw.out _)
          | false =>
            have heq := kJ hls hl2; rw [hl2] at l1; rw [decide_eq_true heq.symm] at l3; rw [decide_eq_true heq] at l4; clear hls hl2 heq
            go_quiet (fail)
            go_wp2_with fail; go_ret
            exact ChE.no (by decide) HN.out (aM hbw.out _)
  . have hlz : ¬ (k : Int) < (n : Int) := by omega
    have HOK : Hid (dP l) := ⟨by rw [HL.out]; omega, fun e he => hU.out.all e (by rw [List.take_of_length_le (by rw [HL.out]; omega)]; exact he), fun j a b ha hb => hU.out.asc j a b (by have := (List.getElem?_eq_some_iff.1 hb).1; have := HL.out; omega) ha hb⟩
    go_wp2_with fail; go_ret
    exact ChE.yes HOK.out hbw.out
structure UpP (l : List Dig) (k : Nat) : Prop where
 nz : ∀ d ∈ l.take k, d ≠ zD
 nod : (l.take k).Nodup
theorem UpP.start (l : List Dig) : UpP l 0 := ⟨fun e h => by simp at h, by simp⟩
theorem UpP.step {l : List Dig} {k : Nat} {x : Dig} (h : UpP l k) (hx : l[k]? = some x) (hz : x ≠ zD) (hn : x ∉ l.take k) : UpP l (k + 1) := by
 refine ⟨fun e he => ?_, ?_⟩
 . rw [bA hx] at he
   rcases List.mem_append.1 he with he | he
   . exact h.nz e he
   . rw [List.mem_singleton.1 he]; exact hz
 . rw [bA hx, List.nodup_append]
   exact ⟨h.nod, by simp, fun a ha b hb e => by rw [List.mem_singleton.1 hb] at e; exact hn (e ▸ ha)⟩
theorem zA (o : Ob) (s : Osl) (B : Nat) (w : World) (hm : ObM w B o s) (hB : B <= w.heap.size) (hw : WfD o.tree) (hp : ∀ d ∈ o.pars, WfD d) (ha : o.auth.size <= 1000000) (hms : o.msg.size <= 1000000) (ht0 : 0 <= o.time) (ht1 : o.time <= 1099511627776) :
  Calls Tryz.prog 146 #[obV o s] w (ChE (OkC o) w) := by
 have HL := ah hm.plen; have HP := ah hm.p; have hpc := hm.ple; have hpm := hm.pmx; have HOC : Hid (∀ o' : Ob, o' = o -> (OkC o' ↔ OkC o)) := fun o' h => by rw [h]
 have HC0 : Hid (o.tree ≠ zD -> mK o.pars -> aT o.auth = true -> o.msg.size <= 200 -> OkC o) := fun h1 h2 h3 h4 => ⟨hw, h1, h2, h3, ht0, ht1, h4⟩
 have HWP := ah hp; have HZ := ah (fun W => kT o.tree W); obtain ⟨kind, data, ents, ⟨t1, t2⟩, pars, auth, time, msg⟩ := o; obtain ⟨eA, en, ec, pA, n, pc⟩ := s; simp only at HL HP hpc hpm HC0 HWP HZ ha hms ht0 ht1; unfold az at HZ; simp only [obV, obC]; have hq1 : ¬ time < 0 := by omega
 have hq2 : ¬ (1099511627776 : Int) < time := by omega
 have hnm : n <= 9223372036854775807 := by unfold maxLen at hpm; omega
 obtain ⟨W0, hW⟩ : ∃ W, w.alloc (.cells #[.int .i64 kind, .string data, .slice eA en ec, .int .u64 t1, .int .u64 t2, .slice pA n pc, .string auth, .int .i64 time, .string msg] 75) = W := ⟨_, rfl⟩
 have HB0 : Hid (Below w.heap.size w W0) := by rw [<- hW]; exact (Below.refl _ w).alloc ai _
 have HK : Hid (Bk W0 w.heap.size 75 #[.int .i64 kind, .string data, .slice eA en ec, .int .u64 t1, .int .u64 t2, .slice pA n pc, .string auth, .int .i64 time, .string msg]) := by rw [<- hW]; exact Bk.new w _ _
 have zk : w.heap.size < W0.heap.size := HK.out.lt; obtain ⟨c0, c1, c2, c3, c4, c5, c6, c7, c8⟩ := HK.out.nine; clear hm hp hw HOC ht0 ht1
 go_enter Tryz.func146, Tryz.ntmps146
 go_wp2_with (first | (go_at_call 166; refine (HZ.out _).mono ?_; rintro e w3 ⟨rfl, hb3⟩; refine aI ?_))
 refine aC ?_; have HB3 := ah (HB0.out.trans (hb3.mono HB0.out.size)); have HK3 := ah (HK.out.below hb3 zk); have z3 : w.heap.size < w3.heap.size := HK3.out.lt; clear hb3 hW c0 c1 c2 c3 c4 c5 c6 c7 c8; obtain ⟨c0, c1, c2, c3, c4, c5, c6, c7, c8⟩ := HK3.out.nine; cases hz : decide (((t1, t2) : Dig) = zD) with
 | true =>
   have HN : Hid (¬ OkC ⟨kind, data, ents, (t1, t2), pars, auth, time, msg⟩) := fun h => h.nz (of_decide_eq_true hz); clear hz; go_wp2_with fail; go_ret
   exact ChE.no (by decide) HN.out HB3.out
 | false =>
 have HTZ : Hid ((t1, t2) ≠ zD) := of_decide_eq_false hz; clear hz; by_cases hbig : 8 < n
 . have hnz : (8 : Int) < (n : Int) := by omega
   have HN : Hid (¬ OkC ⟨kind, data, ents, (t1, t2), pars, auth, time, msg⟩) := fun h => by have := h.pars.few; have := HL.out; simp only at *; omega
   clear hbig; go_wp2_with fail; go_ret
   exact ChE.no (by decide) HN.out HB3.out
 have hnz : ¬ (8 : Int) < (n : Int) := by omega
 go_wp2_with fail
 go_loopw [3] (fun i wr => ∃ k : Nat, i = .int .i64 (k : Int) /\ k <= n /\ Hid (UpP pars k) /\ Hid (Below w3.heap.size w3 wr)) (fun i _ => n - (intOf i).toNat)
 case atStart => exact ⟨0, rfl, Nat.zero_le _, UpP.start pars, Below.refl _ _⟩
 case round =>
  obtain ⟨k, rfl, hk, hU, hbw⟩ := hrel; have HBw : Hid (Below w.heap.size w wr) := HB3.out.trans (hbw.out.mono HB3.out.size); have HKr := ah (HK3.out.below hbw.out z3); clear c0 c1 c2 c3 c4 c5 c6 c7 c8; obtain ⟨c0, c1, c2, c3, c4, c5, c6, c7, c8⟩ := HKr.out.nine; by_cases hlt : k < n
  . have hlz : (k : Int) < (n : Int) := by omega
    have hk0 : ¬ (k : Int) < 0 := by omega
    obtain ⟨bb, off, d, rfl, hbB, hd, y0, y1⟩ := (HP.out.below HBw.out hB).dg hlt; have HD := ah hd; have HZ2 := ah (fun W => kT d W); obtain ⟨d1, d2⟩ := d; simp only at y0 y1; unfold az at HZ2; clear hd
    go_wp2_with (first | (go_at_call 166; refine (HZ2.out _).mono ?_; rintro e w6 ⟨rfl, hb3⟩; refine aI ?_))
    refine aC ?_; have HB4 := ah (hbw.out.trans (hb3.mono hbw.out.size)); clear hb3 c0 c1 c2 c3 c4 c5 c6 c7 c8 y0 y1; cases hz : decide (((d1, d2) : Dig) = zD) with
    | true =>
      have HN : Hid (¬ OkC ⟨kind, data, ents, (t1, t2), pars, auth, time, msg⟩) := fun h => h.pars.nz _ (List.mem_of_getElem? HD.out) (of_decide_eq_true hz); clear hz; go_wp2_with fail; go_ret
      exact ChE.no (by decide) HN.out (HB3.out.trans (HB4.out.mono HB3.out.size))
    | false =>
    have HDZ : Hid ((d1, d2) ≠ zD) := of_decide_eq_false hz; clear hz; go_wp2_with fail; have HK4 := ah (HK3.out.below HB4.out z3); have z4 : w.heap.size < w6.heap.size := HK4.out.lt; have HBW4 : Hid (Below w.heap.size w w6) := HB3.out.trans (HB4.out.mono HB3.out.size)
    go_loopw [4] (fun i wr => ∃ j : Nat, i = .int .i64 (j : Int) /\ j <= k /\ Hid ((d1, d2) ∉ pars.take j) /\ Hid (Below w6.heap.size w6 wr)) (fun i _ => k - (intOf i).toNat)
    case atStart => exact ⟨0, rfl, Nat.zero_le _, (fun h => by simp at h), Below.refl _ _⟩
    case round =>
     obtain ⟨j, rfl, hj, hN, hbr⟩ := hrel; have HBr : Hid (Below w.heap.size w wr) := HBW4.out.trans (hbr.out.mono HBW4.out.size); have HB3r : Hid (Below w3.heap.size w3 wr) := HB4.out.trans (hbr.out.mono HB4.out.size); obtain ⟨c0, c1, c2, c3, c4, c5, c6, c7, c8⟩ := (HK4.out.below hbr.out z4).nine; by_cases hjl : j < k
     . have hjz : (j : Int) < (k : Int) := by omega
       have hjn : (j : Int) < (n : Int) := by omega
       obtain ⟨bb', off', d', hpe, _, hd', y0, y1⟩ := (HP.out.below HBr.out hB).dg (k := j) (by omega); cases hpe
       obtain ⟨bb', off', d3, hpe, _, hd3, u0, u1⟩ := (HP.out.below HBr.out hB).dg (k := k) hlt; cases hpe
       have hdd : d3 = (d1, d2) := by rw [HD.out] at hd3; exact (Option.some.inj hd3).symm
       subst hdd; have HD' := ah hd'; have hde := iW d' (d1, d2); simp only at u0 u1 hde; clear hd' hd3; by_cases e : d' = (d1, d2)
       . rw [decide_eq_true e] at hde
         have HN2 : Hid (¬ OkC ⟨kind, data, ents, (t1, t2), pars, auth, time, msg⟩) := fun h => by
          have h1 := List.getElem?_eq_some_iff.1 HD'.out; have h2 := List.getElem?_eq_some_iff.1 HD.out; have := (List.getElem_inj (h₀ := h1.1) (h₁ := h2.1) h.pars.nod).1 (by rw [h1.2, h2.2, e]); omega
         clear e; obtain ⟨e1, e2⟩ := d'; simp only at y0 y1 hde; go_wp2_with fail
         go_quiet (fail)
         go_wp2_with fail; go_ret
         exact ChE.no (by decide) HN2.out (aM HBr.out _)
       . rw [decide_eq_false e] at hde
         have HN2 : Hid ((d1, d2) ∉ pars.take (j + 1)) := fun hm => by
          rw [bA HD'.out] at hm; rcases List.mem_append.1 hm with hm | hm
          . exact hN.out hm
          . exact e (List.mem_singleton.1 hm).symm
         clear e; obtain ⟨e1, e2⟩ := d'; simp only at y0 y1 hde; go_wp2_with fail
         go_quiet (fail)
         go_wp2_with fail; go_roundw
         case rel => exact ⟨j + 1, by go_num, hjl, HN2.out, aM hbr.out _⟩
         case measure => simp [intOf]; omega
     . have hjz : ¬ (j : Int) < (k : Int) := by omega
       have hjk : j = k := by omega
       subst hjk; have HU2 := ah (hU.out.step HD.out HDZ.out hN.out); go_wp2_with fail; go_roundw
       case rel => exact ⟨j + 1, by go_num, hlt, HU2.out, HB3r.out⟩
       case measure => simp [intOf]; omega
  . have hlz : ¬ (k : Int) < (n : Int) := by omega
    have HPS : Hid (mK pars) := by
     have h1 := hU.out; have e : pars.take k = pars := List.take_of_length_le (by rw [HL.out]; omega); exact ⟨by rw [HL.out]; omega, HWP.out, fun d hd => h1.nz d (by rw [e]; exact hd), by have := h1.nod; rwa [e] at this⟩
    cases hnm2 : aT auth with
    | false =>
      have HN : Hid (¬ OkC ⟨kind, data, ents, (t1, t2), pars, auth, time, msg⟩) := fun h => by have := h.auth; simp only at this; rw [hnm2] at this; cases this
      go_wp2_with (first | (go_at_call 167; refine (jr auth _ (by unfold maxLen; omega)).mono ?_; rintro e w1 ⟨rfl, rfl⟩; rw [hnm2]))
      go_ret
      exact ChE.no (by decide) HN.out HBw.out
    | true =>
      have HNA := ah hnm2; by_cases hml : 200 < msg.size
      . have hmz : (200 : Int) < (msg.size : Int) := by omega
        have HN : Hid (¬ OkC ⟨kind, data, ents, (t1, t2), pars, auth, time, msg⟩) := fun h => by have := h.msg; simp only at this; omega
        clear hml
        go_wp2_with (first | (go_at_call 167; refine (jr auth _ (by unfold maxLen; omega)).mono ?_; rintro e w1 ⟨rfl, rfl⟩; rw [hnm2]))
        go_ret
        exact ChE.no (by decide) HN.out HBw.out
      . have hmz : ¬ (200 : Int) < (msg.size : Int) := by omega
        have HY := ah (HC0.out HTZ.out HPS.out HNA.out (by omega)); clear hml
        go_wp2_with (first | (go_at_call 167; refine (jr auth _ (by unfold maxLen; omega)).mono ?_; rintro e w1 ⟨rfl, rfl⟩; rw [hnm2]))
        go_ret
        exact ChE.yes HY.out HBw.out
structure bK (o : Ob) : Prop where
 d : o.kind = 2 ∨ o.kind = 3 -> o.data = ⟨#[]⟩
 e : o.kind ≠ 2 -> o.ents = []
 c : o.kind = 3 ∨ NoC o
theorem OkF.only {o : Ob} (h : OkF o) : bK o := by
 cases h with
 | blob k e c d => exact ⟨fun h => by omega, fun _ => e, .inr c⟩
 | tree k d c e => exact ⟨fun _ => d, fun h => absurd k h, .inr c⟩
 | commit k d e c => exact ⟨fun _ => d, fun _ => e, .inl k⟩
theorem OkF.of2 {o : Ob} (h : bK o) (k : o.kind = 2) : OkF o ↔ dP o.ents := by
 refine ⟨fun g => ?_, fun g => .tree k (h.d (.inl k)) ?_ g⟩
 . cases g with
   | blob k' => omega
   | tree _ _ _ e => exact e
   | commit k' => omega
 . rcases h.c with h | h
   . omega
   . exact h
theorem OkF.of3 {o : Ob} (h : bK o) (k : o.kind = 3) : OkF o ↔ OkC o := by
 refine ⟨fun g => ?_, fun g => .commit k (h.d (.inr k)) (h.e (by omega)) g⟩; cases g with
 | blob k' => omega
 | tree k' => omega
 | commit _ _ _ c => exact c
theorem OkF.of14 {o : Ob} (h : bK o) (k : o.kind = 1 ∨ o.kind = 4) : OkF o ↔ o.data.size <= 65536 := by
 refine ⟨fun g => ?_, fun g => .blob k (h.e (by omega)) ?_ g⟩
 . cases g with
   | blob _ _ _ d => exact d
   | tree k' => omega
   | commit k' => omega
 . rcases h.c with h | h
   . omega
   . exact h
def OnlE (o : Ob) (w : World) (e : Ending) (w' : World) : Prop := ∃ b : Bool, e = .returned (.bool b) /\ (b = true ↔ bK o) /\ Below w.heap.size w w'
theorem OnlE.no {o : Ob} {w w' : World} (h : ¬ bK o) (hb : Below w.heap.size w w') : OnlE o w (.returned (.bool false)) w' := ⟨false, rfl, ⟨(fun e => by cases e), fun g => absurd g h⟩, hb⟩
theorem OnlE.yes {o : Ob} {w w' : World} (h : bK o) (hb : Below w.heap.size w w') : OnlE o w (.returned (.bool true)) w' := ⟨true, rfl, ⟨fun _ => h, fun _ => rfl⟩, hb⟩
theorem Bd (o : Ob) (s : Osl) (B : Nat) (w : World) (hm : ObM w B o s) : Calls Tryz.prog 144 #[obV o s] w (OnlE o w) := by
 have hel := hm.elen; have hpl := hm.plen; have HZ := ah (fun W => kT o.tree W); obtain ⟨kind, data, ents, ⟨t1, t2⟩, pars, auth, time, msg⟩ := o; obtain ⟨eA, en, ec, pA, n, pc⟩ := s; simp only at hel hpl HZ; unfold az at HZ; simp only [obV, obC]; obtain ⟨W0, hW⟩ : ∃ W, w.alloc (.cells #[.int .i64 kind, .string data, .slice eA en ec, .int .u64 t1, .int .u64 t2, .slice pA n pc, .string auth, .int .i64 time, .string msg] 75) = W := ⟨_, rfl⟩
 have HB0 : Hid (Below w.heap.size w W0) := by rw [<- hW]; exact (Below.refl _ w).alloc ai _
 have HK : Hid (Bk W0 w.heap.size 75 #[.int .i64 kind, .string data, .slice eA en ec, .int .u64 t1, .int .u64 t2, .slice pA n pc, .string auth, .int .i64 time, .string msg]) := by rw [<- hW]; exact Bk.new w _ _
 have zk : w.heap.size < W0.heap.size := HK.out.lt; obtain ⟨c0, c1, c2, c3, c4, c5, c6, c7, c8⟩ := HK.out.nine; have HEL : Hid (ents.length = en) := hel; have HPL : Hid (pars.length = n) := hpl; have hd : (data.toList == []) = decide (data = ⟨#[]⟩) := pK data _; have hau : (auth.toList == []) = decide (auth = ⟨#[]⟩) := pK auth _; have hmg : (msg.toList == []) = decide (msg = ⟨#[]⟩) := pK msg _; clear hm hel hpl; by_cases k2 : kind = 2
 . have q2 : (kind == 2) = true := by simp [k2]
   have q2n : (kind != 2) = false := by simp [k2]
   have q3 : (kind == 3) = false := by simp [k2]
   by_cases hdz : data = ⟨#[]⟩
   . rw [decide_eq_true hdz] at hd
     have HP1 : Hid (NoC ⟨kind, data, ents, (t1, t2), pars, auth, time, msg⟩ -> bK ⟨kind, data, ents, (t1, t2), pars, auth, time, msg⟩) := fun h => ⟨fun _ => hdz, fun h' => absurd k2 h', .inr h⟩
     have HP2 : Hid (bK ⟨kind, data, ents, (t1, t2), pars, auth, time, msg⟩ -> NoC ⟨kind, data, ents, (t1, t2), pars, auth, time, msg⟩) := fun h => by
      rcases h.c with h | h
      . simp only at h; omega
      . exact h
     clear hdz k2
     go_enter Tryz.func144, Tryz.ntmps144
     cases hz : decide (((t1, t2) : Dig) = zD) with
     | false =>
       have HF : Hid (¬ bK ⟨kind, data, ents, (t1, t2), pars, auth, time, msg⟩) := fun h => of_decide_eq_false hz (HP2.out h).tree
       go_wp2_with (first | (go_at_call 166; refine (HZ.out _).mono ?_; rintro e w3 ⟨rfl, hb3⟩; rw [hz]; refine aI ?_))
       refine aC ?_; have HB3 := ah (HB0.out.trans (hb3.mono HB0.out.size)); have HK3 := ah (HK.out.below hb3 zk); clear hb3 hW c0 c1 c2 c3 c4 c5 c6 c7 c8; obtain ⟨c0, c1, c2, c3, c4, c5, c6, c7, c8⟩ := HK3.out.nine; go_wp2_with fail; go_ret
       exact OnlE.no HF.out HB3.out
     | true =>
     have HTZ : Hid (((t1, t2) : Dig) = zD) := ah (of_decide_eq_true hz)
     go_wp2_with (first | (go_at_call 166; refine (HZ.out _).mono ?_; rintro e w3 ⟨rfl, hb3⟩; rw [hz]; refine aI ?_))
     refine aC ?_; have HB3 := ah (HB0.out.trans (hb3.mono HB0.out.size)); have HK3 := ah (HK.out.below hb3 zk); clear hb3 hW c0 c1 c2 c3 c4 c5 c6 c7 c8; obtain ⟨c0, c1, c2, c3, c4, c5, c6, c7, c8⟩ := HK3.out.nine; by_cases hn0 : n = 0
     case neg =>
      have HF : Hid (¬ bK ⟨kind, data, ents, (t1, t2), pars, auth, time, msg⟩) := fun h => by have := (HP2.out h).pars; simp only at this; have h2 := HPL.out; rw [this] at h2; exact hn0 h2.symm
      have hnq : ((n : Int) == 0) = false := by rw [beq_eq_false_iff_ne]; omega
      clear hn0; go_wp2_with fail; go_ret
      exact OnlE.no HF.out HB3.out
     subst hn0; by_cases haz : auth = ⟨#[]⟩
     case neg =>
      have HF : Hid (¬ bK ⟨kind, data, ents, (t1, t2), pars, auth, time, msg⟩) := fun h => haz (HP2.out h).auth; rw [decide_eq_false haz] at hau; clear haz; go_wp2_with fail; go_ret
      exact OnlE.no HF.out HB3.out
     rw [decide_eq_true haz] at hau; have HAZ := ah haz; clear haz; by_cases htz : time = 0
     case neg =>
      have HF : Hid (¬ bK ⟨kind, data, ents, (t1, t2), pars, auth, time, msg⟩) := fun h => htz (HP2.out h).time; have htq : (time == 0) = false := by rw [beq_eq_false_iff_ne]; exact htz
      clear htz; go_wp2_with fail; go_ret
      exact OnlE.no HF.out HB3.out
     have htq : (time == 0) = true := by simp [htz]
     have HTM := ah htz; clear htz; by_cases hmz : msg = ⟨#[]⟩
     case neg =>
      have HF : Hid (¬ bK ⟨kind, data, ents, (t1, t2), pars, auth, time, msg⟩) := fun h => hmz (HP2.out h).msg; rw [decide_eq_false hmz] at hmg; clear hmz; go_wp2_with fail; go_ret
      exact OnlE.no HF.out HB3.out
     rw [decide_eq_true hmz] at hmg; have HT : Hid (bK ⟨kind, data, ents, (t1, t2), pars, auth, time, msg⟩) := HP1.out ⟨HTZ.out, List.eq_nil_of_length_eq_zero HPL.out, HAZ.out, HTM.out, hmz⟩; clear hmz; go_wp2_with fail; go_ret
     exact OnlE.yes HT.out HB3.out
   . have HF : Hid (¬ bK ⟨kind, data, ents, (t1, t2), pars, auth, time, msg⟩) := fun h => hdz (h.d (.inl k2))
     rw [decide_eq_false hdz] at hd; clear hdz k2
     go_enter Tryz.func144, Tryz.ntmps144
     go_wp2_with fail; go_ret
     exact OnlE.no HF.out HB0.out
 . have q2 : (kind == 2) = false := by simp [k2]
   have q2n : (kind != 2) = true := by simp [k2]
   by_cases hez : en = 0
   . subst hez
     have HEZ : Hid (ents = []) := List.eq_nil_of_length_eq_zero HEL.out; by_cases k3 : kind = 3
     . have q3 : (kind == 3) = true := by simp [k3]
       by_cases hdz : data = ⟨#[]⟩
       . rw [decide_eq_true hdz] at hd
         have HT : Hid (bK ⟨kind, data, ents, (t1, t2), pars, auth, time, msg⟩) := ⟨fun _ => hdz, fun _ => HEZ.out, .inl k3⟩
         clear hdz k2 k3
         go_enter Tryz.func144, Tryz.ntmps144
         go_wp2_with fail; go_ret
         exact OnlE.yes HT.out HB0.out
       . have HF : Hid (¬ bK ⟨kind, data, ents, (t1, t2), pars, auth, time, msg⟩) := fun h => hdz (h.d (.inr k3))
         rw [decide_eq_false hdz] at hd; clear hdz k2 k3
         go_enter Tryz.func144, Tryz.ntmps144
         go_wp2_with fail; go_ret
         exact OnlE.no HF.out HB0.out
     . have q3 : (kind == 3) = false := by simp [k3]
       have HP1 : Hid (NoC ⟨kind, data, ents, (t1, t2), pars, auth, time, msg⟩ -> bK ⟨kind, data, ents, (t1, t2), pars, auth, time, msg⟩) := fun h => ⟨fun h' => by simp only at h'; omega, fun _ => HEZ.out, .inr h⟩
       have HP2 : Hid (bK ⟨kind, data, ents, (t1, t2), pars, auth, time, msg⟩ -> NoC ⟨kind, data, ents, (t1, t2), pars, auth, time, msg⟩) := fun h => by
        rcases h.c with h | h
        . exact absurd h k3
        . exact h
       clear k2 k3 hd
       go_enter Tryz.func144, Tryz.ntmps144
       cases hz : decide (((t1, t2) : Dig) = zD) with
       | false =>
         have HF : Hid (¬ bK ⟨kind, data, ents, (t1, t2), pars, auth, time, msg⟩) := fun h => of_decide_eq_false hz (HP2.out h).tree
         go_wp2_with (first | (go_at_call 166; refine (HZ.out _).mono ?_; rintro e w3 ⟨rfl, hb3⟩; rw [hz]; refine aI ?_))
         refine aC ?_; have HB3 := ah (HB0.out.trans (hb3.mono HB0.out.size)); have HK3 := ah (HK.out.below hb3 zk); clear hb3 hW c0 c1 c2 c3 c4 c5 c6 c7 c8; obtain ⟨c0, c1, c2, c3, c4, c5, c6, c7, c8⟩ := HK3.out.nine; go_wp2_with fail; go_ret
         exact OnlE.no HF.out HB3.out
       | true =>
       have HTZ : Hid (((t1, t2) : Dig) = zD) := ah (of_decide_eq_true hz)
       go_wp2_with (first | (go_at_call 166; refine (HZ.out _).mono ?_; rintro e w3 ⟨rfl, hb3⟩; rw [hz]; refine aI ?_))
       refine aC ?_; have HB3 := ah (HB0.out.trans (hb3.mono HB0.out.size)); have HK3 := ah (HK.out.below hb3 zk); clear hb3 hW c0 c1 c2 c3 c4 c5 c6 c7 c8; obtain ⟨c0, c1, c2, c3, c4, c5, c6, c7, c8⟩ := HK3.out.nine; by_cases hn0 : n = 0
       case neg =>
        have HF : Hid (¬ bK ⟨kind, data, ents, (t1, t2), pars, auth, time, msg⟩) := fun h => by have := (HP2.out h).pars; simp only at this; have h2 := HPL.out; rw [this] at h2; exact hn0 h2.symm
        have hnq : ((n : Int) == 0) = false := by rw [beq_eq_false_iff_ne]; omega
        clear hn0; go_wp2_with fail; go_ret
        exact OnlE.no HF.out HB3.out
       subst hn0; by_cases haz : auth = ⟨#[]⟩
       case neg =>
        have HF : Hid (¬ bK ⟨kind, data, ents, (t1, t2), pars, auth, time, msg⟩) := fun h => haz (HP2.out h).auth; rw [decide_eq_false haz] at hau; clear haz; go_wp2_with fail; go_ret
        exact OnlE.no HF.out HB3.out
       rw [decide_eq_true haz] at hau; have HAZ := ah haz; clear haz; by_cases htz : time = 0
       case neg =>
        have HF : Hid (¬ bK ⟨kind, data, ents, (t1, t2), pars, auth, time, msg⟩) := fun h => htz (HP2.out h).time; have htq : (time == 0) = false := by rw [beq_eq_false_iff_ne]; exact htz
        clear htz; go_wp2_with fail; go_ret
        exact OnlE.no HF.out HB3.out
       have htq : (time == 0) = true := by simp [htz]
       have HTM := ah htz; clear htz; by_cases hmz : msg = ⟨#[]⟩
       case neg =>
        have HF : Hid (¬ bK ⟨kind, data, ents, (t1, t2), pars, auth, time, msg⟩) := fun h => hmz (HP2.out h).msg; rw [decide_eq_false hmz] at hmg; clear hmz; go_wp2_with fail; go_ret
        exact OnlE.no HF.out HB3.out
       rw [decide_eq_true hmz] at hmg; have HT : Hid (bK ⟨kind, data, ents, (t1, t2), pars, auth, time, msg⟩) := HP1.out ⟨HTZ.out, List.eq_nil_of_length_eq_zero HPL.out, HAZ.out, HTM.out, hmz⟩; clear hmz; go_wp2_with fail; go_ret
       exact OnlE.yes HT.out HB3.out
   . have hen : (0 : Int) < (en : Int) := by omega
     have HF : Hid (¬ bK ⟨kind, data, ents, (t1, t2), pars, auth, time, msg⟩) := fun h => by have := h.e k2; simp only at this; have h2 := HEL.out; rw [this] at h2; exact hez h2.symm
     clear hez k2; by_cases k3 : kind = 3
     . have q3 : (kind == 3) = true := by simp [k3]
       clear k3; by_cases hdz : data = ⟨#[]⟩
       . rw [decide_eq_true hdz] at hd
         clear hdz
         go_enter Tryz.func144, Tryz.ntmps144
         go_wp2_with fail; go_ret
         exact OnlE.no HF.out HB0.out
       . rw [decide_eq_false hdz] at hd
         clear hdz
         go_enter Tryz.func144, Tryz.ntmps144
         go_wp2_with fail; go_ret
         exact OnlE.no HF.out HB0.out
     . have q3 : (kind == 3) = false := by simp [k3]
       clear k3 hd
       go_enter Tryz.func144, Tryz.ntmps144
       go_wp2_with fail; go_ret
       exact OnlE.no HF.out HB0.out
theorem zL (o : Ob) (s : Osl) (B : Nat) (w : World) (hm : ObM w B o s) (hB : B <= w.heap.size) (hw : WfD o.tree) (hp : ∀ d ∈ o.pars, WfD d) (ha : o.auth.size <= 1000000) (hms : o.msg.size <= 1000000) (ht0 : 0 <= o.time) (ht1 : o.time <= 1099511627776)
  (hes : ∀ e ∈ o.ents, e.nm.size <= 1000000) (hew : ∀ e ∈ o.ents, WfD e.dg) :
  Calls Tryz.prog 128 #[obV o s] w (ChE (OkF o) w) := by
 have HM := ah hm; have HO := ah (fun W => Bd o s B W); have HC := ah (fun W h hb => zA o s B W h hb hw hp ha hms ht0 ht1); have HE := ah (fun W (h : ObM W B o s) hb => zx s.eA s.en s.ec B o.ents W h.e hb (Nat.le_trans h.ele h.emx) hes hew); have HF2 := ah (fun h k => OkF.of2 (o := o) h k); have HF3 := ah (fun h k => OkF.of3 (o := o) h k); have HF1 := ah (fun h k => OkF.of14 (o := o) h k); have HKL := ah (fun h => OkF.kind_le (o := o) h); have HON := ah (fun h => OkF.only (o := o) h); obtain ⟨kind, data, ents, ⟨t1, t2⟩, pars, auth, time, msg⟩ := o; obtain ⟨eA, en, ec, pA, n, pc⟩ := s; simp only [obV, obC] at HO HC HE ⊢; simp only at HF1 HF2 HF3 HKL; obtain ⟨W0, hW⟩ : ∃ W, w.alloc (.cells #[.int .i64 kind, .string data, .slice eA en ec, .int .u64 t1, .int .u64 t2, .slice pA n pc, .string auth, .int .i64 time, .string msg] 75) = W := ⟨_, rfl⟩
 have HB0 : Hid (Below w.heap.size w W0) := by rw [<- hW]; exact (Below.refl _ w).alloc ai _
 have HK : Hid (Bk W0 w.heap.size 75 #[.int .i64 kind, .string data, .slice eA en ec, .int .u64 t1, .int .u64 t2, .slice pA n pc, .string auth, .int .i64 time, .string msg]) := by rw [<- hW]; exact Bk.new w _ _
 have zk : w.heap.size < W0.heap.size := HK.out.lt; obtain ⟨c0, c1, c2, c3, c4, c5, c6, c7, c8⟩ := HK.out.nine; clear hm hw hp ha hms ht0 ht1 hes hew
 go_enter Tryz.func128, Tryz.ntmps128
 by_cases hk1 : kind < 1
 . have HN : Hid (¬ OkF ⟨kind, data, ents, (t1, t2), pars, auth, time, msg⟩) := fun h => by have := (HKL.out h).1; omega
   go_wp2_with fail; go_ret
   exact ChE.no (by decide) HN.out HB0.out
 by_cases hk4 : 4 < kind
 . have HN : Hid (¬ OkF ⟨kind, data, ents, (t1, t2), pars, auth, time, msg⟩) := fun h => by have := (HKL.out h).2; omega
   go_wp2_with fail; go_ret
   exact ChE.no (by decide) HN.out HB0.out
 go_wp2_with fail; refine (HO.out W0 (HM.out.below (HB0.out.mono hB) ai)).mono ?_; rintro e w1 ⟨b, rfl, hb, hb1⟩; have HBO := ah hb; have HB1 : Hid (Below w.heap.size w w1) := HB0.out.trans (hb1.mono HB0.out.size); have HK1 := ah (HK.out.below hb1 zk); clear hb hb1 hW c0 c1 c2 c3 c4 c5 c6 c7 c8; obtain ⟨c0, c1, c2, c3, c4, c5, c6, c7, c8⟩ := HK1.out.nine; cases b with
 | false =>
   have HN : Hid (¬ OkF ⟨kind, data, ents, (t1, t2), pars, auth, time, msg⟩) := fun h => by have := HBO.out.2 (HON.out h); cases this
   go_wp2_with fail; go_ret
   exact ChE.no (by decide) HN.out HB1.out
 | true =>
 have HOP := ah (HBO.out.1 rfl); by_cases k2 : kind = 2
 . have q2 : (kind == 2) = true := by simp [k2]
   have HI := ah (HF2.out HOP.out k2); clear k2
   go_wp2_with (first | (go_at_call 145; refine (HE.out w1 (HM.out.below (HB1.out.mono hB) ai) (by have := HB1.out.size; omega)).mono ?_; rintro e w2 ⟨z, rfl, hz, hb2⟩))
   go_ret
   exact ⟨z, rfl, hz.trans HI.out.symm, HB1.out.trans (hb2.mono HB1.out.size)⟩
 . have q2 : (kind == 2) = false := by simp [k2]
   by_cases k3 : kind = 3
   . have q3 : (kind == 3) = true := by simp [k3]
     have HI := ah (HF3.out HOP.out k3); clear k2 k3
     go_wp2_with (first | (go_at_call 146; refine (HC.out w1 (HM.out.below (HB1.out.mono hB) ai) (by have := HB1.out.size; omega)).mono ?_; rintro e w2 ⟨z, rfl, hz, hb2⟩))
     go_ret
     exact ⟨z, rfl, hz.trans HI.out.symm, HB1.out.trans (hb2.mono HB1.out.size)⟩
   . have q3 : (kind == 3) = false := by simp [k3]
     have HI := ah (HF1.out HOP.out (by omega)); clear k2 k3; by_cases hdl : 65536 < data.size
     . have hdz : (65536 : Int) < (data.size : Int) := by omega
       have HN : Hid (¬ OkF ⟨kind, data, ents, (t1, t2), pars, auth, time, msg⟩) := fun h => by have := HI.out.1 h; omega
       clear hdl; go_wp2_with fail; go_ret
       exact ChE.no (by decide) HN.out HB1.out
     . have hdz : ¬ (65536 : Int) < (data.size : Int) := by omega
       have HY : Hid (OkF ⟨kind, data, ents, (t1, t2), pars, auth, time, msg⟩) := HI.out.2 (by omega); clear hdl; go_wp2_with fail; go_ret
       exact ChE.yes HY.out HB1.out
def Lf (D : Bytes) (p : Nat -> Bool) : Bytes := (List.range 16).map fun j => if p j then D.getD j 0 else 0
theorem FN (D : Bytes) (p : Nat -> Bool) : (Lf D p).length = 16 := by simp [Lf]
theorem Fy (D : Bytes) (p p' : Nat -> Bool) (q : Nat) (b : UInt8) (hb : D[q]? = some b) (hp : ∀ j, p' j = (p j || j == q)) : (Lf D p).set q b = Lf D p' := by
 apply List.ext_getElem?
 intro j; unfold Lf; rw [List.getElem?_set]; by_cases hj : j < 16
 . simp only [List.length_map, List.length_range, List.getElem?_map, List.getElem?_range hj, Option.map_some, hp j]
   by_cases e : q = j
   . subst e
     simp [hj, List.getD, hb]
   . have : (j == q) = false := by rw [beq_eq_false_iff_ne]; exact fun h => e h.symm
     simp [e, this]
 . have h1 : (List.range 16)[j]? = none := by rw [List.getElem?_eq_none]; simp; omega
   simp only [List.length_map, List.length_range, List.getElem?_map, h1, Option.map_none]; split
   . rename_i h; subst h; simp [hj]
   . rfl
theorem FL (D : Bytes) (hD : D.length = 16) (p : Nat -> Bool) (hp : ∀ j, j < 16 -> p j = true) : Lf D p = D := by
 apply List.ext_getElem?
 intro j; unfold Lf; by_cases hj : j < 16
 . simp [List.getElem?_range hj, hp j hj, List.getD, List.getElem?_eq_getElem (show j < D.length by omega)]
 . rw [List.getElem?_eq_none (by simp; omega), List.getElem?_eq_none (by omega)]
theorem FK (l : Bytes) (q : Nat) (b : UInt8) : (bc (l.set q b)).toArray = (bc l).toArray.setIfInBounds q (.int .u8 b.toNat) := by
 apply Array.ext'
 simp [bc, List.map_set]
def pw (k t : Nat) (j : Nat) : Bool := decide (j < 8 * k ∨ (8 * k + 8 - t <= j /\ j < 8 * k + 8))
def iV : Array Value := Array.replicate 16 (.int .u8 0)
theorem Gs (w : World) : (Instr.makeSlice 178 (.int .i64 16) (.int .i64 16)).run Tryz.prog w = .ok (.slice (some ⟨w.heap.size, 0, none⟩) 16 16) (w.alloc (.cells iV 5)) := by kernel_rfl
theorem vH (D : Bytes) : iV = (bc (Lf D (pw 0 0))).toArray := by
 have : Lf D (pw 0 0) = List.replicate 16 0 := by
  apply List.ext_getElem?
  intro j; unfold Lf; by_cases hj : j < 16
  . have h0 : pw 0 0 j = false := by
      simp only [pw, decide_eq_false_iff_not]; omega
    rw [List.getElem?_replicate, if_pos hj, List.getElem?_map, List.getElem?_range hj, Option.map_some, h0]; rfl
  . rw [List.getElem?_eq_none (by simp; omega), List.getElem?_eq_none (by simp; omega)]
 rw [this]; rfl
theorem EK (k j : Nat) : pw (k + 1) 0 j = pw k 8 j := by
 simp only [pw, decide_eq_decide]; omega
theorem Ed {k t : Nat} (ht : t < 8) (j : Nat) : pw k (t + 1) j = (pw k t j || j == 8 * k + (7 - t)) := by
 simp only [pw]; rw [Bool.eq_iff_iff]; simp; omega
theorem nk (d : Dig) (hd : WfD d) (w : World) : Calls Tryz.prog 131 #[az d] w fun e w' => e = .returned (.string (ofL (ak d))) /\ Below w.heap.size w w' := by
 obtain ⟨x, y⟩ := d; obtain ⟨hx0, hx1, hy0, hy1⟩ := hd; simp only at hx0 hx1 hy0 hy1; obtain ⟨x, rfl⟩ := Int.eq_ofNat_of_zero_le hx0; obtain ⟨y, rfl⟩ := Int.eq_ofNat_of_zero_le hy0; have HX1 := ah hx1; have HY1 := ah hy1; clear hx0 hx1 hy0 hy1; show Calls Tryz.prog 131 #[.agg #[.int .u64 x, .int .u64 y]] w _; have hmk := Gs; have K0 : Bk ((w.alloc (.cells #[.int .u64 x, .int .u64 y] 42)).alloc (.cells iV 5)) w.heap.size 42 #[.int .u64 x, .int .u64 y] := (Bk.new w 42 _).alloc _; have K1 : Bk ((w.alloc (.cells #[.int .u64 x, .int .u64 y] 42)).alloc (.cells iV 5)) (w.heap.size + 1) 5 (bc (Lf (ak ((x : Int), (y : Int))) (pw 0 0))).toArray := by
  have := Bk.new (w.alloc (.cells #[.int .u64 x, .int .u64 y] 42)) 5 iV; rw [World.size_alloc, vH (ak ((x : Int), (y : Int)))] at this; rw [vH (ak ((x : Int), (y : Int)))]; exact this
 have HB : Hid (Below w.heap.size w ((w.alloc (.cells #[.int .u64 x, .int .u64 y] 42)).alloc (.cells iV 5))) := ((Below.refl _ w).alloc ai _).alloc (by simp) _; have HK0 := ah K0; have HK1 := ah K1; clear K0 K1
 go_enter Tryz.func131, Tryz.ntmps131
 go_wp2
 go_loopw [4] (fun i wr => ∃ k : Nat, k <= 2 /\ i = .int .i64 k /\ Hid (Bk wr w.heap.size 42 #[.int .u64 x, .int .u64 y]) /\ Hid (Bk wr (w.heap.size + 1) 5 (bc (Lf (ak ((x : Int), (y : Int))) (pw k 0))).toArray) /\ Hid (Below w.heap.size w wr)) (fun i _ => 2 - (intOf i).toNat)
 case atStart => exact ⟨0, by omega, rfl, HK0.out, HK1.out, HB.out⟩
 case round =>
  obtain ⟨k, hk, rfl, J0, J1, hB⟩ := hrel; by_cases hlt2 : k < 2
  . have hlz : (k : Int) < 2 := by omega
    obtain ⟨z, hz, hix, hby⟩ : ∃ z : Nat, Hid (z < 18446744073709551616) /\ wr.cell? ⟨w.heap.size, k, none⟩ = some (.int .u64 (z : Int)) /\ (∀ j, j < 8 -> (ak ((x : Int), (y : Int)))[8 * k + j]? = some (UInt8.ofNat (z / 256 ^ (7 - j) % 256))) := by
     rcases Nat.lt_or_ge k 1 with h1 | h1
     . obtain rfl : k = 0 := by omega
       refine ⟨x, by show _ < _; have := HX1.out; omega, J0.out.cell 0, fun j hj => ?_⟩; unfold ak; rw [List.getElem?_append_left (by rw [dK]; omega), Int.toNat_natCast, show 8 * 0 + j = j by omega]; exact ic 8 x j hj
     . obtain rfl : k = 1 := by omega
       refine ⟨y, by show _ < _; have := HY1.out; omega, J0.out.cell 1, fun j hj => ?_⟩; unfold ak; rw [List.getElem?_append_right (by rw [dK]; omega), Int.toNat_natCast, dK, show 8 * 1 + j - 8 = j by omega]; exact ic 8 y j hj
    have HBY := ah hby; clear hby
    go_wp2
    obtain ⟨wo, rfl⟩ : ∃ wo : World, wo = wr := ⟨_, rfl⟩
    go_loopw [5, 6] (fun v i wr => ∃ (t p : Nat), t <= 8 /\ i = .int .i64 (7 - (t : Int)) /\ v = .int .u64 p /\ Hid (p = z / 256 ^ t) /\ Hid (Bk wr w.heap.size 42 #[.int .u64 x, .int .u64 y]) /\ Hid (Bk wr (w.heap.size + 1) 5 (bc (Lf (ak ((x : Int), (y : Int))) (pw k t))).toArray) /\ Hid (Below w.heap.size w wr)) (fun _ i _ => (intOf i + 1).toNat)
    case atStart => exact ⟨0, z, by omega, rfl, rfl, by show _ = _; simp, J0, J1, hB⟩
    case round =>
     obtain ⟨t, p, ht, rfl, rfl, hp, L0, L1, hB⟩ := hrel; by_cases hlt : t < 8
     . have hji : (0 : Int) <= 7 - (t : Int) := by omega
       obtain ⟨b, hb⟩ : ∃ b, UInt8.ofNat (p % 256) = b := ⟨_, rfl⟩
       have hmod : ((p : Int) % 256) = (b.toNat : Int) := by rw [<- hb, eZ (by omega)]; omega
       obtain ⟨p2, hp2⟩ : ∃ p2, p / 256 = p2 := ⟨_, rfl⟩
       have hdiv : ((p : Int) / 256) = (p2 : Int) := by omega
       have HBJ : Hid ((ak ((x : Int), (y : Int)))[8 * k + (7 - t)]? = some b) := by
        show _ = _; rw [HBY.out (7 - t) (by omega), show 7 - (7 - t) = t by omega, <- hp.out, hb]
       have HDV : Hid (p2 = z / 256 ^ (t + 1)) := by show _ = _; rw [<- hp2, hp.out, Nat.pow_succ, Nat.div_div_eq_div_mul]
       have hbl : b.toNat < 256 := b.toNat_lt; have HPB : Hid (p2 < 18446744073709551616) := by
        show _ < _; rw [HDV.out]; exact Nat.lt_of_le_of_lt (Nat.div_le_self _ _) hz.out
       clear hb hp2; generalize hq : 7 - (t : Int) = q at *; have HQ := ah hq; obtain ⟨r, hr⟩ : ∃ r : Nat, 8 * (k : Int) + q = (r : Int) := ⟨8 * k + (7 - t), by omega⟩
       have HR : Hid (r = 8 * k + (7 - t)) := by show _ = _; omega
       have hrl : r < 16 := by omega
       have f0 := L1.out.free r; obtain ⟨v0, hv0⟩ : ∃ v0, wr.cell? ⟨w.heap.size + 1, r, none⟩ = some v0 := by
        rw [L1.out.cell]; have hl : r < (bc (Lf (ak ((x : Int), (y : Int))) (pw k t))).toArray.size := by rw [List.size_toArray, dG, FN]; exact hrl
        exact ⟨_, Array.getElem?_eq_getElem hl⟩
       have hq1 : -100 <= q := by omega
       have hq2 : q <= 100 := by omega
       clear hq
       go_wp2
       go_roundw
       case rel =>
        refine ⟨t + 1, p2, by omega, by rw [<- HQ.out]; congr 1; omega, by rw [IntWalk.u64_in _ ⟨by omega, by have := HPB.out; omega⟩], HDV.out, L0.out.far (p := ⟨w.heap.size + 1, r, none⟩) (by simp) _, ?_, hB.out.setCell (p := ⟨w.heap.size + 1, r, none⟩) (by simp) _⟩; have h1 := L1.out.set r (.int .u8 b.toNat); have hD := HBJ.out; rw [<- HR.out] at hD; rw [<- FK, Fy _ _ (pw k (t + 1)) r b hD (fun j => by rw [Ed hlt, HR.out])] at h1; exact h1
       case measure => have := HQ.out; simp [intOf]; omega
     . have hji : ¬ (0 : Int) <= 7 - (t : Int) := by omega
       have HT8 : Hid (t = 8) := by show _ = _; omega
       generalize hq : 7 - (t : Int) = q at *; clear hq
       go_wp2
       go_roundw
       case rel =>
        refine ⟨k + 1, by omega, by go_num, L0.out, ?_, hB.out⟩; have h1 := L1.out; rw [HT8.out, <- show pw (k + 1) 0 = pw k 8 from funext (EK k)] at h1; exact h1
       case measure => simp [intOf]; omega
  . have hlz : ¬ (k : Int) < 2 := by omega
    have HK2 : Hid (k = 2) := by show _ = _; omega
    have hconv := run_convert_bytes_back (P := Tryz.prog) wr 178 9 5 ⟨w.heap.size + 1, 0, none⟩ 16 (ak ((x : Int), (y : Int))) Tryz.underlying178 Tryz.underlying5 Tryz.underlying9 (by
     intro j hj; have h1 := J1.out.cell j; rw [FL _ (dU _) (pw k 0) (fun i hi => by rw [HK2.out]; simp only [pw, decide_eq_true_eq]; omega)] at h1; rw [Addr.add_lit, Nat.zero_add, h1]; simp [bc, List.getElem?_eq_getElem hj])
    rw [dU] at hconv
    go_wp2
    go_ret
    exact ⟨rfl, hB.out⟩
end Go.Proofs.YtlcecobipgmafaaGreatDoor
