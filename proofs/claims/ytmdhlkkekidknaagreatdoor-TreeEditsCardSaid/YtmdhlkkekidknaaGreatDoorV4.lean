/-
  Lemmas: The program's object.check on valid objects. Comparing digests: digest.Compare and cordwoodref02.Compare. pool.find: slices.BinarySearchFunc over items. An append at a step of a region that draws its order. slices.Grow and slices.Concat on items, and pool.insert.
-/
import Derived.Deep.QuietTactic
import Derived.BigQuiet
import Derived.Deep.CutRange
import Derived.Deep.RegionHeld3
import Derived.Lib.AppendZerosOnto
import Derived.Test.YtmdhlkkekidknaaGreatDoorV3
import Derived.Test.YtmdhlkkekidknaaGreatDoorV1
import Derived.Test.YtmdhlkkekidknaaGreatDoorV2

namespace Go.Proofs.YtmdhlkkekidknaaGreatDoor
open Go.RowKit

theorem Sl.en {w : World} {B n k : Nat} {A : Option Addr} {l : List Ent} (h : Sl w B 4 A n (flat enC l)) (hk : k < n) :
    ∃ b off e, A = some ⟨b, off, none⟩ ∧ b < B ∧ l[k]? = some e ∧ w.cell? ⟨b, off + k * 4, none⟩ = some (.string e.nm) ∧ w.cell? ⟨b, off + k * 4 + 1, none⟩ = some (.bool e.dir) ∧ w.cell? ⟨b, off + k * 4 + 2, none⟩ = some (.int .u64 e.dg.1) ∧ w.cell? ⟨b, off + k * 4 + 3, none⟩ = some (.int .u64 e.dg.2) := by
  obtain ⟨b, off, x, e, hb, hx, hc⟩ := h.at_ enC_len (by omega) hk
  exact ⟨b, off, x, e, hb, hx, hc 0 _ rfl, hc 1 _ rfl, hc 2 _ rfl, hc 3 _ rfl⟩
theorem Sl.dg {w : World} {B n k : Nat} {A : Option Addr} {l : List Dig} (h : Sl w B 2 A n (flat dgC l)) (hk : k < n) :
    ∃ b off d, A = some ⟨b, off, none⟩ ∧ b < B ∧ l[k]? = some d ∧ w.cell? ⟨b, off + k * 2, none⟩ = some (.int .u64 d.1) ∧ w.cell? ⟨b, off + k * 2 + 1, none⟩ = some (.int .u64 d.2) := by
  obtain ⟨b, off, x, e, hb, hx, hc⟩ := h.at_ dgC_len (by omega) hk
  exact ⟨b, off, x, e, hb, hx, hc 0 _ rfl, hc 1 _ rfl⟩
theorem dig_eq (x y : Dig) : (x.1 == y.1 && x.2 == y.2) = decide (x = y) := by
  obtain ⟨a, b⟩ := x
  obtain ⟨c, d⟩ := y
  rw [Bool.eq_iff_iff]; simp
theorem dig_nz {x : Dig} (h : x ≠ zD) : (x.1 == 0 && x.2 == 0) = false := by
  have := dig_eq x zD
  rw [decide_eq_false h] at this; exact this
set_option maxRecDepth 100000 in
set_option maxHeartbeats 2000000 in
theorem ocheckEs_any (A : Option Addr) (n c B : Nat) (l : List Ent) (w : World) (h0 : Sl w B 4 A n (flat enC l)) (hB : B ≤ w.heap.size) (hok : OkEs l) :
    Calls Tryz.prog 190 #[.slice A n c] w fun e w' => e = .returned (.int .i64 0) ∧ Below w.heap.size w w' := by
  have HL := Lib.hid (h0.len enC_len (by omega))
  have H0 := Lib.hid h0
  have hn : n ≤ 200 := by rw [← HL.out]; exact hok.few
  have HA := Lib.hid hok.all; have HS := Lib.hid hok.asc
  clear h0 hok
  have hnz : ¬ (200 : Int) < (n : Int) := by omega
  go_enter Tryz.func190, Tryz.ntmps190
  go_wp2_with fail
  go_loopw [10] (fun i wr => ∃ k : Nat, i = .int .i64 (k : Int) ∧ k ≤ n ∧ Hid (Below w.heap.size w wr)) (fun i _ => n - (intOf i).toNat)
  case atStart => exact ⟨0, rfl, Nat.zero_le _, Below.refl _ _⟩
  case round =>
    obtain ⟨k, rfl, hk, hbw⟩ := hrel
    have zwr := hbw.out.size
    by_cases hlt : k < n
    · have hlz : (k : Int) < (n : Int) := by omega
      obtain ⟨bb, off, en, rfl, hbB, he, y0, y1, y2, y3⟩ := (H0.out.below hbw.out hB).en hlt
      have HE := Lib.hid he
      have HOE := Lib.hid (HA.out en (List.mem_of_getElem? he))
      obtain ⟨wb, hwb⟩ : ∃ wb, wr.alloc (.cells #[.string en.nm, .bool en.dir, .int .u64 en.dg.1, .int .u64 en.dg.2] 102) = wb := ⟨_, rfl⟩
      have HBb : Hid (Below wr.heap.size wr wb) := by rw [← hwb]; exact (Below.refl _ wr).alloc (Nat.le_refl _) _
      have HKb : Hid (Bk wb wr.heap.size 102 #[.string en.nm, .bool en.dir, .int .u64 en.dg.1, .int .u64 en.dg.2]) := by rw [← hwb]; exact Bk.new wr _ _
      have HBw : Hid (Below w.heap.size w wb) := hbw.out.trans (HBb.out.mono zwr)
      have hns := nameB_size HOE.out.nm
      have hnm := HOE.out.nm
      have hdz := dig_nz HOE.out.nz
      have zwb : wb.heap.size = wr.heap.size + 1 := by rw [← hwb]; simp
      have HNX : Hid (∀ j, k = j + 1 → ∃ p, Hid (Op.bytesLess en.nm.toList p.toList = false ∧ (en.nm.toList == p.toList) = false) ∧ wb.cell? ⟨bb, off + j * 4, none⟩ = some (.string p)) := by
        intro j hj
        obtain ⟨bb', off', p, hpe, _, hp, z0, _⟩ := (H0.out.below HBw.out hB).en (k := j) (by omega)
        cases hpe
        have hl := HS.out j p en hp (by rw [← hj]; exact HE.out)
        refine ⟨p.nm, ⟨(less_str _ _).trans ?_, str_ne fun e => ?_⟩, z0⟩
        · cases hx : less en.nm p.nm with
          | false => rfl
          | true => have := lessB_trans hl hx; rw [lessB_irrefl] at this; cases this
        · rw [e, lessB_irrefl] at hl; cases hl
      have x0 := HKb.out.cell 0; have x2 := HKb.out.cell 2; have x3 := HKb.out.cell 3
      simp at x0 x2 x3
      have x0' := x0
      rw [← hwb] at x0'
      have HWb := Lib.hid hwb
      clear hwb he
      obtain ⟨nm, dir, d1, d2⟩ := en
      simp only at hns hnm hdz y0 y1 y2 y3 x0 x2 x3 x0' HWb HKb HNX
      go_upto_region 8 with (first | (go_at_call 98; refine (vname_any nm _ (by unfold maxLen; omega)).mono ?_; rintro e w1 ⟨rfl, rfl⟩; rw [hnm]))
      rw [HWb.out]
      clear x0'
      go_cut [20] from 21 to 33 (fun f wx => f = .bool false ∧ Hid (Below wb.heap.size wb wx))
      case first =>
        cases k with
        | zero =>
          go_quiet (fail)
          simp only [Exit.then]
          go_step
          go_meet
          exact ⟨rfl, below_drewN (Below.refl _ _) _⟩
        | succ j =>
          obtain ⟨p, HP, z0⟩ := HNX.out j rfl
          have hkp : (0 : Int) < ((j + 1 : Nat) : Int) := by omega
          have hw1 : IntKind.i64.wrap (((j + 1 : Nat) : Int) - 1) = (j : Int) := by rw [wrap_sm (by omega) (by omega)]; omega
          have hj1 : ¬ (j : Int) < 0 := by omega
          have hj2 : (j : Int) < (n : Int) := by omega
          obtain ⟨hp, hp'⟩ := HP.out
          go_quiet (fail)
          simp only [Exit.then]
          go_step
          go_meet
          exact ⟨rfl, below_drewN (Below.refl _ _) _⟩
      case rest =>
        obtain ⟨rfl, HBc⟩ := hcut
        have HBwc : Hid (Below w.heap.size w wc) := HBw.out.trans (HBc.out.mono HBw.out.size)
        have HKc := Lib.hid (HKb.out.below HBc.out HKb.out.lt)
        clear x0 x2 x3 y0 y1 y2 y3
        have x2 := HKc.out.cell 2; have x3 := HKc.out.cell 3
        simp at x2 x3
        go_wp2_with fail
        go_roundw
        case rel => exact ⟨k + 1, by go_num, hlt, HBwc.out⟩
        case measure => simp [intOf]; omega
    · have hlz : ¬ (k : Int) < (n : Int) := by omega
      go_wp2_with fail
      go_ret
      exact ⟨rfl, hbw.out⟩
set_option maxRecDepth 100000 in
set_option maxHeartbeats 2000000 in
theorem indexD_any (A : Option Addr) (n c B : Nat) (l : List Dig) (d : Dig) (w : World) (h0 : Sl w B 2 A n (flat dgC l)) (hB : B ≤ w.heap.size) (hn : n ≤ 1000000) :
    Calls Tryz.prog 218 #[.slice A n c, digV d] w fun e w' => (∃ z : Int, e = .returned (.int .i64 z) ∧ ((0 ≤ z) ↔ d ∈ l)) ∧ Below w.heap.size w w' := by
  have HL := Lib.hid (h0.len dgC_len (by omega))
  have H0 := Lib.hid h0; clear h0
  obtain ⟨a, b⟩ := d
  unfold digV
  obtain ⟨W, hW⟩ : ∃ W, w.alloc (.cells #[.int .u64 a, .int .u64 b] 30) = W := ⟨_, rfl⟩
  have HB0 : Hid (Below w.heap.size w W) := by rw [← hW]; exact (Below.refl _ w).alloc (Nat.le_refl _) _
  have HK : Hid (Bk W w.heap.size 30 #[.int .u64 a, .int .u64 b]) := by rw [← hW]; exact Bk.new w _ _
  have zk : w.heap.size < W.heap.size := HK.out.lt
  simp only
  go_enter Tryz.func218, Tryz.ntmps218
  go_wp2_with fail
  clear hW
  go_loopw [8] (fun i wr => ∃ k : Nat, k ≤ n ∧ i = .int .i64 k ∧ Hid ((a, b) ∉ l.take k) ∧ Hid (Below W.heap.size W wr)) (fun i _ => n - (intOf i).toNat)
  case atStart => exact ⟨0, Nat.zero_le _, rfl, (fun h => by simp at h), Below.refl _ _⟩
  case round =>
    obtain ⟨k, hk, rfl, hN, hBel⟩ := hrel
    have HBw : Hid (Below w.heap.size w wr) := HB0.out.trans (hBel.out.mono HB0.out.size)
    by_cases hlt : k < n
    · obtain ⟨bb, off, x, rfl, hbB, hx, y0, y1⟩ := (H0.out.below HBw.out hB).dg hlt
      have hlz : (k : Int) < (n : Int) := by omega
      obtain ⟨x0, x1, _, _⟩ := (HK.out.below hBel.out zk).two
      have HX := Lib.hid hx; clear hx
      have hde := dig_eq (a, b) x
      simp only at hde
      by_cases e : (a, b) = x
      · rw [decide_eq_true e] at hde
        have HM : Hid ((a, b) ∈ l) := by show _ ∈ _; rw [e]; exact List.mem_of_getElem? HX.out
        clear e
        obtain ⟨x1', x2'⟩ := x
        simp only at y0 y1 hde
        go_wp2_with fail
        go_quiet (fail)
        go_wp2_with fail
        go_ret
        exact ⟨⟨_, rfl, fun _ => HM.out, fun _ => by omega⟩, below_drewN HBw.out _⟩
      · rw [decide_eq_false e] at hde
        have HN : Hid ((a, b) ∉ l.take (k + 1)) := fun hm => by
          rw [take_snoc HX.out] at hm
          rcases List.mem_append.1 hm with hm | hm
          · exact hN.out hm
          · exact e (List.mem_singleton.1 hm)
        clear e
        obtain ⟨x1', x2'⟩ := x
        simp only at y0 y1 hde
        go_wp2_with fail
        go_quiet (fail)
        go_wp2_with fail
        go_roundw
        case rel => exact ⟨k + 1, by omega, by go_num, HN.out, below_drewN hBel.out _⟩
        case measure => simp [intOf]; omega
    · have hlz : ¬ (k : Int) < (n : Int) := by omega
      have HN : Hid ((a, b) ∉ l) := by
        have := hN.out
        rwa [List.take_of_length_le (by rw [HL.out]; omega)] at this
      go_wp2_with fail
      go_ret
      exact ⟨⟨_, rfl, fun h => absurd h (by decide), fun h => absurd h HN.out⟩, HBw.out⟩
set_option maxHeartbeats 1000000 in
theorem containsD_any (A : Option Addr) (n c B : Nat) (l : List Dig) (d : Dig) (w : World) (h0 : Sl w B 2 A n (flat dgC l)) (hB : B ≤ w.heap.size) (hn : n ≤ 1000000) :
    Calls Tryz.prog 210 #[.slice A n c, digV d] w fun e w' => e = .returned (.bool (decide (d ∈ l))) ∧ Below w.heap.size w w' := by
  obtain ⟨W, hW⟩ : ∃ W, w.alloc (.cells #[.int .u64 d.1, .int .u64 d.2] 30) = W := ⟨_, rfl⟩
  have HB0 : Hid (Below w.heap.size w W) := by rw [← hW]; exact (Below.refl _ w).alloc (Nat.le_refl _) _
  have HK : Hid (Bk W w.heap.size 30 #[.int .u64 d.1, .int .u64 d.2]) := by rw [← hW]; exact Bk.new w _ _
  obtain ⟨x0, x1, _, _⟩ := HK.out.two
  have HI := Lib.hid (indexD_any A n c B l d W (h0.below (HB0.out.mono hB) (Nat.le_refl _)) (by have := HB0.out.size; omega) hn)
  unfold digV at HI ⊢
  clear h0
  go_enter Tryz.func210, Tryz.ntmps210
  go_wp2_with fail
  refine HI.out.mono ?_
  rintro e w1 ⟨⟨z, rfl, hz⟩, hb⟩
  have HZ := Lib.hid hz
  have HB1 : Hid (Below w.heap.size w w1) := HB0.out.trans (hb.mono HB0.out.size)
  clear hz hb
  by_cases h : 0 ≤ z
  · have HM : Hid (d ∈ l) := HZ.out.1 h
    go_wp2_with fail
    go_ret
    exact ⟨ret_bool (by rw [decide_eq_true HM.out]), HB1.out⟩
  · have HM : Hid (d ∉ l) := fun hm => h (HZ.out.2 hm)
    go_wp2_with fail
    go_ret
    exact ⟨ret_bool (by rw [decide_eq_false HM.out]; simp; omega), HB1.out⟩
structure Osl where
  eA : Option Addr
  en : Nat
  ec : Nat
  pA : Option Addr
  pn : Nat
  pc : Nat
def obC (o : Ob) (s : Osl) : Array Value := #[.int .i64 o.kind, .string o.data, .slice s.eA s.en s.ec, .int .u64 o.tree.1, .int .u64 o.tree.2, .slice s.pA s.pn s.pc, .string o.auth, .int .i64 o.time, .string o.msg]
def obV (o : Ob) (s : Osl) : Value := .agg (obC o s)
structure ObM (w : World) (B : Nat) (o : Ob) (s : Osl) : Prop where
  e : Sl w B 4 s.eA s.en (flat enC o.ents)
  p : Sl w B 2 s.pA s.pn (flat dgC o.pars)
  ele : s.en ≤ s.ec
  emx : s.ec ≤ maxLen
  ple : s.pn ≤ s.pc
  pmx : s.pc ≤ maxLen
theorem ObM.below {w w' : World} {B B' : Nat} {o : Ob} {s : Osl} (h : ObM w B o s) (hb : Below B' w w') (hB : B ≤ B') : ObM w' B o s := ⟨h.e.below hb hB, h.p.below hb hB, h.ele, h.emx, h.ple, h.pmx⟩
theorem ObM.more {w : World} {B B' : Nat} {o : Ob} {s : Osl} (h : ObM w B o s) (hB : B ≤ B') : ObM w B' o s := ⟨h.e.more hB, h.p.more hB, h.ele, h.emx, h.ple, h.pmx⟩
theorem ObM.elen {w : World} {B : Nat} {o : Ob} {s : Osl} (h : ObM w B o s) : o.ents.length = s.en := h.e.len enC_len (by omega)
theorem ObM.plen {w : World} {B : Nat} {o : Ob} {s : Osl} (h : ObM w B o s) : o.pars.length = s.pn := h.p.len dgC_len (by omega)
theorem Bk.nine {w : World} {b : Nat} {t : TypeId} {x0 x1 x2 x3 x4 x5 x6 x7 x8 : Value} (h : Bk w b t #[x0, x1, x2, x3, x4, x5, x6, x7, x8]) : w.cell? ⟨b, 0, none⟩ = some x0 ∧ w.cell? ⟨b, 1, none⟩ = some x1 ∧ w.cell? ⟨b, 2, none⟩ = some x2 ∧ w.cell? ⟨b, 3, none⟩ = some x3 ∧ w.cell? ⟨b, 4, none⟩ = some x4 ∧ w.cell? ⟨b, 5, none⟩ = some x5 ∧ w.cell? ⟨b, 6, none⟩ = some x6 ∧ w.cell? ⟨b, 7, none⟩ = some x7 ∧ w.cell? ⟨b, 8, none⟩ = some x8 := by
  have c0 := h.cell 0; have c1 := h.cell 1; have c2 := h.cell 2; have c3 := h.cell 3; have c4 := h.cell 4; have c5 := h.cell 5; have c6 := h.cell 6; have c7 := h.cell 7; have c8 := h.cell 8
  simp at c0 c1 c2 c3 c4 c5 c6 c7 c8
  exact ⟨c0, c1, c2, c3, c4, c5, c6, c7, c8⟩
set_option maxRecDepth 100000 in
set_option maxHeartbeats 4000000 in
theorem ocheckC_any (o : Ob) (s : Osl) (B : Nat) (w : World) (hm : ObM w B o s) (hB : B ≤ w.heap.size) (hc : OkC o) :
    Calls Tryz.prog 191 #[obV o s] w fun e w' => e = .returned (.int .i64 0) ∧ Below w.heap.size w w' := by
  have HL := Lib.hid hm.plen
  have HP := Lib.hid hm.p
  have hn : s.pn ≤ 8 := by have := hc.pars.few; rw [HL.out] at this; exact this
  have HPS := Lib.hid hc.pars
  have hpc := hm.ple; have hpm := hm.pmx
  have htz := dig_nz hc.nz
  have hau := hc.auth
  have hns := nameB_size hc.auth
  have ht0 := hc.t0; have ht1 := hc.t1; have hms := hc.msg
  obtain ⟨kind, data, ents, ⟨t1, t2⟩, pars, auth, time, msg⟩ := o
  obtain ⟨eA, en, ec, pA, n, pc⟩ := s
  simp only at HL HP hn HPS hpc hpm htz hau hns ht0 ht1 hms
  simp only [obV, obC]
  have hnm : n ≤ 9223372036854775807 := by omega
  have hnz : ¬ (8 : Int) < (n : Int) := by omega
  have hq1 : ¬ time < 0 := by omega
  have hq2 : ¬ (1099511627776 : Int) < time := by omega
  have hq3 : ¬ (200 : Int) < (msg.size : Int) := by omega
  obtain ⟨W0, hW⟩ : ∃ W0, w.alloc (.cells #[.int .i64 kind, .string data, .slice eA en ec, .int .u64 t1, .int .u64 t2, .slice pA n pc, .string auth, .int .i64 time, .string msg] 82) = W0 := ⟨_, rfl⟩
  have HB0 : Hid (Below w.heap.size w W0) := by rw [← hW]; exact (Below.refl _ w).alloc (Nat.le_refl _) _
  have HK : Hid (Bk W0 w.heap.size 82 #[.int .i64 kind, .string data, .slice eA en ec, .int .u64 t1, .int .u64 t2, .slice pA n pc, .string auth, .int .i64 time, .string msg]) := by rw [← hW]; exact Bk.new w _ _
  have zk : w.heap.size < W0.heap.size := HK.out.lt
  obtain ⟨c0, c1, c2, c3, c4, c5, c6, c7, c8⟩ := HK.out.nine
  clear hm hc
  go_enter Tryz.func191, Tryz.ntmps191
  go_wp2_with fail
  clear hW
  go_loopw [16] (fun i wr => ∃ k : Nat, i = .int .i64 (k : Int) ∧ k ≤ n ∧ Hid (Below W0.heap.size W0 wr)) (fun i _ => n - (intOf i).toNat)
  case atStart => exact ⟨0, rfl, Nat.zero_le _, Below.refl _ _⟩
  case round =>
    obtain ⟨k, rfl, hk, hbw⟩ := hrel
    have zwr := hbw.out.size
    have HBw : Hid (Below w.heap.size w wr) := HB0.out.trans (hbw.out.mono HB0.out.size)
    clear c0 c1 c2 c3 c4 c5 c6 c7 c8
    obtain ⟨c0, c1, c2, c3, c4, c5, c6, c7, c8⟩ := (HK.out.below hbw.out zk).nine
    by_cases hlt : k < n
    · have hlz : (k : Int) < (n : Int) := by omega
      obtain ⟨bb, off, d, rfl, hbB, hd, y0, y1⟩ := (HP.out.below HBw.out hB).dg hlt
      have HD := Lib.hid hd
      have hdz := dig_nz (HPS.out.nz d (List.mem_of_getElem? hd))
      have HNI : Hid (d ∉ pars.take k) := fun hm => by
        obtain ⟨j, hj, e⟩ := List.getElem_of_mem hm
        rw [List.getElem_take] at e
        have h1 := List.getElem?_eq_some_iff.1 HD.out
        rw [List.length_take] at hj
        have := (List.getElem_inj (h₀ := by omega) (h₁ := h1.1) HPS.out.nod).1 (e.trans h1.2.symm)
        omega
      obtain ⟨d1, d2⟩ := d
      simp only at y0 y1 hdz
      obtain ⟨wb, hwb⟩ : ∃ wb, wr.alloc (.cells #[.int .u64 d1, .int .u64 d2] 30) = wb := ⟨_, rfl⟩
      have HBb : Hid (Below wr.heap.size wr wb) := by rw [← hwb]; exact (Below.refl _ wr).alloc (Nat.le_refl _) _
      have HKb : Hid (Bk wb wr.heap.size 30 #[.int .u64 d1, .int .u64 d2]) := by rw [← hwb]; exact Bk.new wr _ _
      have zwb : wb.heap.size = wr.heap.size + 1 := by rw [← hwb]; simp
      have HBwb : Hid (Below w.heap.size w wb) := HBw.out.trans (HBb.out.mono (by omega))
      have HCO : Hid (∀ Z, Below wb.heap.size wb Z → Calls Tryz.prog 210 #[.slice (some ⟨bb, off, none⟩) k pc, .agg #[.int .u64 d1, .int .u64 d2]] Z fun e w' => e = .returned (.bool false) ∧ Below Z.heap.size Z w') := fun Z hZ => by
        have hs : Sl Z B 2 (some ⟨bb, off, none⟩) k (flat dgC (pars.take k)) := by
          have h1 := (HP.out.below HBwb.out hB).below hZ (by have := HBwb.out.size; omega)
          refine ⟨by rw [flat_len dgC_len, List.length_take, HL.out]; rw [Nat.min_eq_left (by omega)], fun h0 => ?_⟩
          obtain ⟨b', o', e1, e2, e3⟩ := h1.2 (by omega)
          refine ⟨b', o', e1, e2, fun j u hu => e3 j u ?_⟩
          rw [flat_take dgC_len] at hu
          have hjl := (List.getElem?_eq_some_iff.1 hu).1
          rw [List.getElem?_take, if_pos (by rw [List.length_take] at hjl; omega)] at hu
          exact hu
        have h := containsD_any (some ⟨bb, off, none⟩) k pc B (pars.take k) (d1, d2) Z hs (by have := hZ.size; have := HBwb.out.size; omega) (by omega)
        rw [decide_eq_false HNI.out] at h
        exact h
      have b0 := HKb.out.cell 0; have b1 := HKb.out.cell 1
      simp at b0 b1
      have e5 := (HK.out.below (hbw.out.trans (HBb.out.mono zwr)) zk).nine.2.2.2.2.2.1
      have hsl : ∀ Z : World, (Instr.sliceAt 80 (.slice (some ⟨bb, off, none⟩) n pc) none (some (.int .i64 k)) none).run Tryz.prog Z = .ok (.slice (some ⟨bb, off, none⟩) k pc) Z := fun Z => by
        obtain ⟨i0, hi0, _⟩ := info_parts infoDg
        exact run_slice_to 80 i0 Tryz.underlying80 hi0 _ n pc k (by omega) Z
      have HWb := Lib.hid hwb
      clear hd hwb
      go_upto_region 10 with fail
      rw [HWb.out]
      refine wp_region_stableGD 5 (24 :: 25 :: 26 :: 27 :: 28 :: []) (by kernel_rfl) (by kernel_rfl) (by kernel_rfl) (fun W => Below wb.heap.size wb W) (fun W W' => Below W.heap.size W W')
        (vPhi ((.pointer (some ⟨w.heap.size, 5, none⟩)) :: (.slice (some ⟨bb, off, none⟩) n pc) :: (.int .i64 (k : Int)) :: (.slice (some ⟨bb, off, none⟩) k pc) :: (.agg #[.int .u64 d1, .int .u64 d2]) :: [])) (fun W W' h1 h2 => h1.trans (h2.mono h1.size)) (fun i v W W' h _ => h) (Below.refl _ _).drew ?stepC ?tailC
      case stepC =>
        intro i o vs W hi ho hv hR hphi
        obtain ⟨v0, v1, v2, v3, v4, rfl⟩ := ls5 hv
        simp only [List.zip, List.zipWith, putAll, Act.put, List.setIfInBounds_toArray, List.set]
        have hWz := hR.size
        have g5 := (hR.cell (p := ⟨w.heap.size, 5, none⟩) (by show w.heap.size < _; omega)).trans e5
        have g0 := (hR.cell (p := ⟨wr.heap.size, 0, none⟩) (by show wr.heap.size < _; omega)).trans b0
        have g1 := (hR.cell (p := ⟨wr.heap.size, 1, none⟩) (by show wr.heap.size < _; omega)).trans b1
        match i, hi, ho with
        | 0, _, rfl =>
          exact .inl ⟨rfl, gives_value (v := .pointer (some ⟨w.heap.size, 5, none⟩)) (w' := W) (by go_simp) ⟨Below.refl _ _, fun u hu => by cases hu; rfl⟩⟩
        | 1, _, rfl =>
          have e0 : v0 = _ := hphi ⟨0, .data⟩ (by simp) rfl v0 rfl _ rfl
          subst e0
          exact .inl ⟨rfl, gives_value (v := .slice (some ⟨bb, off, none⟩) n pc) (w' := W) (by go_simp) ⟨Below.refl _ _, fun u hu => by cases hu; rfl⟩⟩
        | 2, _, rfl =>
          exact .inl ⟨rfl, gives_value (v := .int .i64 (k : Int)) (w' := W) (by go_simp) ⟨Below.refl _ _, fun u hu => by cases hu; rfl⟩⟩
        | 3, _, rfl =>
          have e1 : v1 = _ := hphi ⟨1, .data⟩ (by simp) rfl v1 rfl _ rfl
          have e2 : v2 = _ := hphi ⟨2, .data⟩ (by simp) rfl v2 rfl _ rfl
          subst e1 e2
          exact .inl ⟨rfl, gives_value (v := .slice (some ⟨bb, off, none⟩) k pc) (w' := W) (by go_simp) ⟨Below.refl _ _, fun u hu => by cases hu; rfl⟩⟩
        | 4, _, rfl =>
          exact .inl ⟨rfl, gives_value (v := .agg #[.int .u64 d1, .int .u64 d2]) (w' := W) (by go_simp) ⟨Below.refl _ _, fun u hu => by cases hu; rfl⟩⟩
        | i + 5, hi, _ => exact absurd hi (by omega)
      case tailC =>
        intro vs W hv hR hphi
        obtain ⟨v0, v1, v2, v3, v4, rfl⟩ := ls5 hv
        simp only [List.zip, List.zipWith, putAll, Act.put, List.setIfInBounds_toArray, List.set, List.drop]
        have e0 : v0 = _ := hphi 0 v0 rfl _ rfl
        have e1 : v1 = _ := hphi 1 v1 rfl _ rfl
        have e2 : v2 = _ := hphi 2 v2 rfl _ rfl
        have e3 : v3 = _ := hphi 3 v3 rfl _ rfl
        have e4 : v4 = _ := hphi 4 v4 rfl _ rfl
        subst e0 e1 e2 e3 e4
        clear hphi hv
        have HBz : Hid (Below W0.heap.size W0 W) := hbw.out.trans ((HBb.out.trans (hR.mono (by omega))).mono zwr)
        have HR := Lib.hid hR
        clear hR
        go_wp2_with (first | (go_at_call 210; refine (HCO.out _ HR.out).mono ?_; rintro e w3 ⟨rfl, hb3⟩; refine halt_ ?_))
        refine unhalt ?_
        have HB3 : Hid (Below W0.heap.size W0 w3) := HBz.out.trans (hb3.mono HBz.out.size)
        clear hb3
        go_wp2_with fail
        go_roundw
        case rel => exact ⟨k + 1, by go_num, hlt, HB3.out⟩
        case measure => simp [intOf]; omega
    · have hlz : ¬ (k : Int) < (n : Int) := by omega
      go_wp2_with (first | (go_at_call 98; refine (vname_any auth _ (by unfold maxLen; omega)).mono ?_; rintro e w1 ⟨rfl, rfl⟩; rw [hau]))
      go_ret
      exact ⟨rfl, HBw.out⟩
theorem NoC.flds {o : Ob} (h : NoC o) : o.tree = (0, 0) ∧ o.pars.length = 0 ∧ o.auth = ⟨#[]⟩ ∧ o.time = 0 ∧ o.msg = ⟨#[]⟩ := ⟨h.tree, by rw [h.pars]; rfl, h.auth, h.time, h.msg⟩
set_option maxRecDepth 100000 in
set_option maxHeartbeats 4000000 in
theorem ocheck0_any (o : Ob) (s : Osl) (B : Nat) (w : World) (hm : ObM w B o s) (hB : B ≤ w.heap.size) (hf : OkF o) :
    Calls Tryz.prog 140 #[obV o s] w fun e w' => e = .returned (.int .i64 0) ∧ Below w.heap.size w w' := by
  obtain ⟨W0, hW⟩ : ∃ W, w.alloc (.cells (obC o s) 82) = W := ⟨_, rfl⟩
  have HB0 : Hid (Below w.heap.size w W0) := by rw [← hW]; exact (Below.refl _ w).alloc (Nat.le_refl _) _
  have HK : Hid (Bk W0 w.heap.size 82 (obC o s)) := by rw [← hW]; exact Bk.new w _ _
  have hm0 := hm.below (HB0.out.mono hB) (Nat.le_refl _)
  have hel := hm.elen; have hpl := hm.plen
  cases hf with
  | blob k e c d =>
    obtain ⟨h1, h2, h3, h4, h5⟩ := c.flds
    have he0 : s.en = 0 := by rw [← hel, e]; rfl
    have hp0 : s.pn = 0 := by rw [← hpl]; exact h2
    obtain ⟨kind, data, ents, tree, pars, auth, time, msg⟩ := o
    obtain ⟨eA, en, ec, pA, n, pc⟩ := s
    simp only at h1 h3 h4 h5 he0 hp0 k
    subst h1 h3 h4 h5 he0 hp0
    simp only [obV, obC] at hW HK ⊢
    obtain ⟨c0, c1, c2, c3, c4, c5, c6, c7, c8⟩ := HK.out.nine
    clear hm hm0 hel hpl e c d h2
    rcases k with rfl | rfl
    all_goals
      go_enter Tryz.func140, Tryz.ntmps140
      go_wp2
      go_ret
      exact ⟨rfl, HB0.out⟩
  | tree k d c e =>
    obtain ⟨h1, h2, h3, h4, h5⟩ := c.flds
    have hp0 : s.pn = 0 := by rw [← hpl]; exact h2
    have HE := Lib.hid (ocheckEs_any s.eA s.en s.ec B o.ents W0 hm0.e (by have := HB0.out.size; omega) e)
    obtain ⟨kind, data, ents, tree, pars, auth, time, msg⟩ := o
    obtain ⟨eA, en, ec, pA, n, pc⟩ := s
    simp only at h1 h3 h4 h5 hp0 k d HE
    subst h1 h3 h4 h5 hp0 k d
    simp only [obV, obC] at hW HK ⊢
    obtain ⟨c0, c1, c2, c3, c4, c5, c6, c7, c8⟩ := HK.out.nine
    clear hm hm0 hel hpl e c h2
    go_enter Tryz.func140, Tryz.ntmps140
    go_wp2_with (first | (go_at_call 190; refine HE.out.mono ?_; rintro e w1 ⟨rfl, hb⟩))
    all_goals
      go_ret
      exact ⟨rfl, HB0.out.trans (hb.mono HB0.out.size)⟩
  | commit k d e c =>
    have he0 : s.en = 0 := by rw [← hel, e]; rfl
    have HC := Lib.hid (ocheckC_any o s B W0 hm0 (by have := HB0.out.size; omega) c)
    have htz := dig_nz c.nz
    obtain ⟨kind, data, ents, ⟨t1, t2⟩, pars, auth, time, msg⟩ := o
    obtain ⟨eA, en, ec, pA, n, pc⟩ := s
    simp only at he0 k d htz
    subst he0 k d
    simp only [obV, obC] at hW HK HC ⊢
    obtain ⟨c0, c1, c2, c3, c4, c5, c6, c7, c8⟩ := HK.out.nine
    clear hm hm0 hel hpl e c
    go_enter Tryz.func140, Tryz.ntmps140
    go_wp2_with (first | (go_at_call 191; refine HC.out.mono ?_; rintro e w1 ⟨rfl, hb⟩))
    all_goals
      go_ret
      exact ⟨rfl, HB0.out.trans (hb.mono HB0.out.size)⟩
end Go.Proofs.YtmdhlkkekidknaaGreatDoor

namespace Go.Proofs.YtmdhlkkekidknaaGreatDoor
open Go.RowKit

def cmpI (x y : Int) : Int := if x < y then -1 else if y < x then 1 else 0
def orI : List Int → Int
  | [] => 0
  | a :: r => if a = 0 then orI r else a
theorem cmpD_or (a b : Dig) (h : a ≠ b) : cmpD a b = orI [cmpI a.1 b.1, cmpI a.2 b.2] := by
  unfold cmpD
  rw [if_neg h]
  obtain ⟨a1, a2⟩ := a; obtain ⟨b1, b2⟩ := b
  rw [ne_eq, Prod.mk.injEq] at h
  simp only [orI, cmpI, ltD]
  repeat' split
  all_goals first | rfl | omega
theorem isNaNu_any (x : Int) (w : World) : Calls Tryz.prog 165 #[.int .u64 x] w fun e w' => e = .returned (.bool false) ∧ w = w' := by
  go_enter Tryz.func165, Tryz.ntmps165
  have h : (x != x) = false := by simp
  go_wp2
  go_ret
  exact ⟨rfl, rfl⟩
theorem cmpu_any (x y : Int) (w : World) : Calls Tryz.prog 115 #[.int .u64 x, .int .u64 y] w fun e w' => e = .returned (.int .i64 (cmpI x y)) ∧ w = w' := by
  have H1 := Lib.hid (isNaNu_any x w)
  have H2 := Lib.hid (isNaNu_any y w)
  obtain ⟨z, hz⟩ : ∃ z, cmpI x y = z := ⟨_, rfl⟩
  have HZ := Lib.hid hz
  clear hz
  rw [HZ.out]
  go_enter Tryz.func115, Tryz.ntmps115
  go_wp2_with fail
  refine H1.out.mono ?_
  rintro e w1 ⟨rfl, rfl⟩
  go_wp2_with fail
  refine H2.out.mono ?_
  rintro e w1 ⟨rfl, rfl⟩
  by_cases h : x < y
  · have hz : Hid (z = -1) := by show _ = _; rw [← HZ.out]; exact if_pos h
    go_wp2_with fail
    go_ret
    exact ⟨by rw [hz.out]; rfl, rfl⟩
  · by_cases g : y < x
    · have hz : Hid (z = 1) := by show _ = _; rw [← HZ.out]; unfold cmpI; rw [if_neg h, if_pos g]
      go_wp2_with fail
      go_ret
      exact ⟨by rw [hz.out]; rfl, rfl⟩
    · have hz : Hid (z = 0) := by show _ = _; rw [← HZ.out]; unfold cmpI; rw [if_neg h, if_neg g]
      go_wp2_with fail
      go_ret
      exact ⟨by rw [hz.out]; rfl, rfl⟩
theorem cor_any (b : Nat) (t : TypeId) (x y : Int) (w : World) (h : Bk w b t #[.int .i64 x, .int .i64 y]) :
    Calls Tryz.prog 114 #[.slice (some ⟨b, 0, none⟩) 2 2] w fun e w' => e = .returned (.int .i64 (orI [x, y])) ∧ w = w' := by
  obtain ⟨c0, c1, _, _⟩ := h.two
  have H := Lib.hid h
  clear h
  go_enter Tryz.func114, Tryz.ntmps114
  by_cases hx : x = 0
  · have hxn : (x != 0) = false := by simp [hx]
    have HX := Lib.hid hx
    clear hx
    by_cases hy : y = 0
    · have hyn : (y != 0) = false := by simp [hy]
      have HY := Lib.hid hy
      clear hy
      go_wp2_with fail
      go_loopw [8] (fun i wr => ∃ k : Nat, k ≤ 2 ∧ i = .int .i64 k ∧ wr = w) (fun i _ => 2 - (intOf i).toNat)
      case atStart => exact ⟨0, by omega, rfl, rfl⟩
      case round =>
        obtain ⟨k, hk, rfl, rfl⟩ := hrel
        rcases (by omega : k = 0 ∨ k = 1 ∨ k = 2) with rfl | rfl | rfl
        · go_wp2_with fail
          go_roundw
          case rel => exact ⟨1, by omega, by go_num, trivial⟩
          case measure => simp [intOf]
        · go_wp2_with fail
          go_roundw
          case rel => exact ⟨2, by omega, by go_num, trivial⟩
          case measure => simp [intOf]
        · go_wp2_with fail
          go_ret
          exact ⟨by rw [HX.out, HY.out]; rfl, rfl⟩
    · have hyn : (y != 0) = true := by simp [hy]
      have HE : Hid (orI [x, y] = y) := by show _ = _; simp only [orI, HX.out, if_true]; split <;> simp_all
      clear hy
      go_wp2_with fail
      go_loopw [8] (fun i wr => ∃ k : Nat, k ≤ 1 ∧ i = .int .i64 k ∧ wr = w) (fun i _ => 2 - (intOf i).toNat)
      case atStart => exact ⟨0, by omega, rfl, rfl⟩
      case round =>
        obtain ⟨k, hk, rfl, rfl⟩ := hrel
        rcases (by omega : k = 0 ∨ k = 1) with rfl | rfl
        · go_wp2_with fail
          go_roundw
          case rel => exact ⟨1, by omega, by go_num, trivial⟩
          case measure => simp [intOf]
        · go_wp2_with fail
          go_ret
          exact ⟨by rw [HE.out]; rfl, rfl⟩
  · have hxn : (x != 0) = true := by simp [hx]
    have HE : Hid (orI [x, y] = x) := by show _ = _; simp [orI, hx]
    clear hx
    go_wp2_with fail
    go_loopw [8] (fun i wr => i = .int .i64 0 ∧ wr = w) (fun i _ => 0)
    case atStart => exact ⟨rfl, rfl⟩
    case round =>
      obtain ⟨rfl, rfl⟩ := hrel
      go_wp2_with fail
      go_ret
      exact ⟨by rw [HE.out]; rfl, rfl⟩
def SlP (a1 a2 b1 b2 : Int) (v : Value) (W : World) : Prop := ∃ b0, v = .slice (some ⟨b0, 0, none⟩) 2 2 ∧ Bk W b0 3 #[.int .i64 (cmpI a1 b1), .int .i64 (cmpI a2 b2)]
def CmE (a b : Dig) (w : World) (e : Ending) (w' : World) : Prop := e = .returned (.int .i64 (cmpD a b)) ∧ Below w.heap.size w w'
set_option maxRecDepth 100000 in
set_option maxHeartbeats 4000000 in
theorem dcmp_any (a b : Dig) (w : World) : Calls Tryz.prog 62 #[digV a, digV b] w (CmE a b w) := by
  obtain ⟨a1, a2⟩ := a; obtain ⟨b1, b2⟩ := b
  obtain ⟨z, hz⟩ : ∃ z, cmpD (a1, a2) (b1, b2) = z := ⟨_, rfl⟩
  have HZ := Lib.hid hz
  have HN : Hid (((a1, a2) : Dig) ≠ (b1, b2) → z = orI [cmpI a1 b1, cmpI a2 b2]) := fun h => by rw [← hz]; exact cmpD_or _ _ h
  clear hz
  unfold CmE
  rw [HZ.out]
  have HD : Hid ((a1 == b1 && a2 == b2) = decide (((a1, a2) : Dig) = (b1, b2))) := by
    show _ = _
    rw [Bool.eq_iff_iff]; simp
  simp only [digV]
  obtain ⟨wz, hW⟩ : ∃ wz, (w.alloc (.cells #[.int .u64 a1, .int .u64 a2] 30)).alloc (.cells #[.int .u64 b1, .int .u64 b2] 30) = wz := ⟨_, rfl⟩
  have HA : Hid (Bk wz w.heap.size 30 #[.int .u64 a1, .int .u64 a2]) := by rw [← hW]; exact (Bk.new w _ _).alloc _
  have HB : Hid (Bk wz (w.heap.size + 1) 30 #[.int .u64 b1, .int .u64 b2]) := by
    rw [← hW]
    have := Bk.new (w.alloc (.cells #[.int .u64 a1, .int .u64 a2] 30)) 30 #[.int .u64 b1, .int .u64 b2]
    rw [World.size_alloc] at this; exact this
  have HL : Hid (Below w.heap.size w wz) := by rw [← hW]; exact ((Below.refl _ w).alloc (Nat.le_refl _) _).alloc (by simp) _
  have hzW : w.heap.size + 2 = wz.heap.size := by rw [← hW]; simp
  obtain ⟨c0, c1, _, _⟩ := HA.out.two
  obtain ⟨c2, c3, _, _⟩ := HB.out.two
  have HC1 := Lib.hid (fun w => cmpu_any a1 b1 w)
  have HC2 := Lib.hid (fun w => cmpu_any a2 b2 w)
  by_cases h : ((a1, a2) : Dig) = (b1, b2)
  · have hd := HD.out
    rw [decide_eq_true h] at hd
    have H0 : Hid (z = 0) := by show _ = _; rw [← HZ.out]; exact (cmpD_zero _ _).2 h
    clear h
    go_enter Tryz.func62, Tryz.ntmps62
    go_wp2_with fail
    go_ret
    exact ⟨by rw [H0.out]; rfl, HL.out⟩
  · have hd := HD.out
    rw [decide_eq_false h] at hd
    have H0 : Hid (z = orI [cmpI a1 b1, cmpI a2 b2]) := HN.out h
    clear h
    go_enter Tryz.func62, Tryz.ntmps62
    go_wp2_with fail
    have HSP : Hid (∀ x ∈ [(10, SlP a1 a2 b1 b2)], ∀ v W W', x.2 v W → Below W.heap.size W W' → x.2 v W') := fun x hx v W W' h hb => by
      simp only [List.mem_singleton] at hx
      subst hx
      obtain ⟨b0, h1, h2⟩ := h
      exact ⟨b0, h1, h2.below hb h2.lt⟩
    have k0 := c0; have k1 := c1; have k2 := c2; have k3 := c3
    refine wp_region_stableGD 12 (8 :: 9 :: 10 :: 11 :: 12 :: 13 :: 14 :: 15 :: 16 :: 17 :: 18 :: 19 :: []) (by kernel_rfl) (by kernel_rfl) (by kernel_rfl) (fun W => Below wz.heap.size wz W) (fun W W' => Below W.heap.size W W')
      (gPhi [(10, SlP a1 a2 b1 b2)] ((.pointer (some ⟨w.heap.size, 0, none⟩)) :: (.int .u64 a1) :: (.pointer (some ⟨w.heap.size + 1, 0, none⟩)) :: (.int .u64 b1) :: (.int .i64 (cmpI a1 b1)) :: (.pointer (some ⟨w.heap.size, 1, none⟩)) :: (.int .u64 a2) :: (.pointer (some ⟨w.heap.size + 1, 1, none⟩)) :: (.int .u64 b2) :: (.int .i64 (cmpI a2 b2)) :: (undef) :: (.int .i64 (orI [cmpI a1 b1, cmpI a2 b2])) :: [])) (fun W W' h1 h2 => h1.trans (h2.mono h1.size)) (fun i v W W' h hb => gPhi_keep HSP.out i v W W' h hb) (Below.refl _ _).drew ?stepA ?tailA
    case stepA =>
      intro i o vs W hi ho hv hR hphi
      obtain ⟨v0, v1, v2, v3, v4, v5, v6, v7, v8, v9, v10, v11, rfl⟩ := ls12 hv
      simp only [List.zip, List.zipWith, putAll, Act.put, List.setIfInBounds_toArray, List.set]
      have hWz := hR.size
      have c0 := (hR.cell (p := ⟨w.heap.size, 0, none⟩) (by show w.heap.size < _; omega)).trans k0
      have c1 := (hR.cell (p := ⟨w.heap.size, 1, none⟩) (by show w.heap.size < _; omega)).trans k1
      have c2 := (hR.cell (p := ⟨w.heap.size + 1, 0, none⟩) (by show w.heap.size + 1 < _; omega)).trans k2
      have c3 := (hR.cell (p := ⟨w.heap.size + 1, 1, none⟩) (by show w.heap.size + 1 < _; omega)).trans k3
      match i, hi, ho with
      | 0, _, rfl =>
        exact .inl ⟨rfl, gives_value (v := .pointer (some ⟨w.heap.size, 0, none⟩)) (w' := W) (by go_simp) ⟨Below.refl _ _, fun u hu => by cases hu; rfl⟩⟩
      | 1, _, rfl =>
        have e0 : v0 = _ := hphi ⟨0, .data⟩ (by simp) rfl v0 rfl _ rfl
        subst e0
        exact .inl ⟨rfl, gives_value (v := .int .u64 a1) (w' := W) (by go_simp) ⟨Below.refl _ _, fun u hu => by cases hu; rfl⟩⟩
      | 2, _, rfl =>
        exact .inl ⟨rfl, gives_value (v := .pointer (some ⟨w.heap.size + 1, 0, none⟩)) (w' := W) (by go_simp) ⟨Below.refl _ _, fun u hu => by cases hu; rfl⟩⟩
      | 3, _, rfl =>
        have e2 : v2 = _ := hphi ⟨2, .data⟩ (by simp) rfl v2 rfl _ rfl
        subst e2
        exact .inl ⟨rfl, gives_value (v := .int .u64 b1) (w' := W) (by go_simp) ⟨Below.refl _ _, fun u hu => by cases hu; rfl⟩⟩
      | 4, _, rfl =>
        have e1 : v1 = _ := hphi ⟨1, .data⟩ (by simp) rfl v1 rfl _ rfl
        have e3 : v3 = _ := hphi ⟨3, .data⟩ (by simp) rfl v3 rfl _ rfl
        subst e1 e3
        refine .inl ⟨rfl, gives_call (f := 115) (args := #[.int .u64 a1, .int .u64 b1]) (by go_simp) ((HC1.out W).mono ?_)⟩
        rintro e W' ⟨rfl, rfl⟩
        exact ⟨_, rfl, Below.refl _ _, fun u hu => by cases hu; rfl⟩
      | 5, _, rfl =>
        exact .inl ⟨rfl, gives_value (v := .pointer (some ⟨w.heap.size, 1, none⟩)) (w' := W) (by go_simp) ⟨Below.refl _ _, fun u hu => by cases hu; rfl⟩⟩
      | 6, _, rfl =>
        have e5 : v5 = _ := hphi ⟨5, .data⟩ (by simp) rfl v5 rfl _ rfl
        subst e5
        exact .inl ⟨rfl, gives_value (v := .int .u64 a2) (w' := W) (by go_simp) ⟨Below.refl _ _, fun u hu => by cases hu; rfl⟩⟩
      | 7, _, rfl =>
        exact .inl ⟨rfl, gives_value (v := .pointer (some ⟨w.heap.size + 1, 1, none⟩)) (w' := W) (by go_simp) ⟨Below.refl _ _, fun u hu => by cases hu; rfl⟩⟩
      | 8, _, rfl =>
        have e7 : v7 = _ := hphi ⟨7, .data⟩ (by simp) rfl v7 rfl _ rfl
        subst e7
        exact .inl ⟨rfl, gives_value (v := .int .u64 b2) (w' := W) (by go_simp) ⟨Below.refl _ _, fun u hu => by cases hu; rfl⟩⟩
      | 9, _, rfl =>
        have e6 : v6 = _ := hphi ⟨6, .data⟩ (by simp) rfl v6 rfl _ rfl
        have e8 : v8 = _ := hphi ⟨8, .data⟩ (by simp) rfl v8 rfl _ rfl
        subst e6 e8
        refine .inl ⟨rfl, gives_call (f := 115) (args := #[.int .u64 a2, .int .u64 b2]) (by go_simp) ((HC2.out W).mono ?_)⟩
        rintro e W' ⟨rfl, rfl⟩
        exact ⟨_, rfl, Below.refl _ _, fun u hu => by cases hu; rfl⟩
      | 10, _, rfl =>
        have e4 : v4 = _ := hphi ⟨4, .data⟩ (by simp) rfl v4 rfl _ rfl
        have e9 : v9 = _ := hphi ⟨9, .data⟩ (by simp) rfl v9 rfl _ rfl
        subst e4 e9
        exact .inl ⟨rfl, gives_value (v := .slice (some ⟨W.heap.size, 0, none⟩) 2 2) (w' := W.alloc (.cells #[.int .i64 (cmpI a1 b1), .int .i64 (cmpI a2 b2)] 3)) (by go_simp) ⟨(Below.refl _ W).alloc (Nat.le_refl _) _, W.heap.size, rfl, Bk.new W _ _⟩⟩
      | 11, _, rfl =>
        obtain ⟨b0, rfl, hbk⟩ : (SlP a1 a2 b1 b2) v10 W := hphi ⟨10, .data⟩ (by simp) rfl v10 rfl
        refine .inl ⟨rfl, gives_call (f := 114) (args := #[.slice (some ⟨b0, 0, none⟩) 2 2]) (by go_simp) ((cor_any b0 3 _ _ W hbk).mono ?_)⟩
        rintro e W' ⟨rfl, rfl⟩
        exact ⟨_, rfl, Below.refl _ _, fun u hu => by cases hu; rfl⟩
      | i + 12, hi, _ => exact absurd hi (by omega)
    case tailA =>
      intro vs W hv hR hphi
      obtain ⟨v0, v1, v2, v3, v4, v5, v6, v7, v8, v9, v10, v11, rfl⟩ := ls12 hv
      simp only [List.zip, List.zipWith, putAll, Act.put, List.setIfInBounds_toArray, List.set, List.drop]
      have e0 : v0 = _ := hphi 0 v0 rfl _ rfl
      have e1 : v1 = _ := hphi 1 v1 rfl _ rfl
      have e2 : v2 = _ := hphi 2 v2 rfl _ rfl
      have e3 : v3 = _ := hphi 3 v3 rfl _ rfl
      have e4 : v4 = _ := hphi 4 v4 rfl _ rfl
      have e5 : v5 = _ := hphi 5 v5 rfl _ rfl
      have e6 : v6 = _ := hphi 6 v6 rfl _ rfl
      have e7 : v7 = _ := hphi 7 v7 rfl _ rfl
      have e8 : v8 = _ := hphi 8 v8 rfl _ rfl
      have e9 : v9 = _ := hphi 9 v9 rfl _ rfl
      have e10 : (SlP a1 a2 b1 b2) v10 W := hphi 10 v10 rfl
      have e11 : v11 = _ := hphi 11 v11 rfl _ rfl
      subst e0 e1 e2 e3 e4 e5 e6 e7 e8 e9 e11
      clear hphi hv
      obtain ⟨b0, rfl, _⟩ := e10
      go_wp2_with fail
      go_ret
      exact ⟨by rw [H0.out]; rfl, HL.out.trans (hR.mono (by omega))⟩
theorem cmpD_lt1 {a1 a2 b1 b2 : Int} (h : a1 < b1) : cmpD (a1, a2) (b1, b2) = -1 := by
  unfold cmpD ltD
  rw [if_neg (by rw [Prod.mk.injEq]; omega)]
  exact if_pos (Or.inl h)
theorem cmpD_gt1 {a1 a2 b1 b2 : Int} (h : b1 < a1) : cmpD (a1, a2) (b1, b2) = 1 := by
  unfold cmpD ltD
  rw [if_neg (by rw [Prod.mk.injEq]; omega)]
  exact if_neg (by simp only; omega)
theorem cmpD_snd {a1 a2 b1 b2 : Int} (h : ¬ a1 < b1) (g : ¬ b1 < a1) : cmpD (a1, a2) (b1, b2) = cmpI a2 b2 := by
  obtain rfl : a1 = b1 := by omega
  unfold cmpD ltD cmpI
  simp only [Prod.mk.injEq, true_and]
  repeat' split
  all_goals first | rfl | omega
set_option maxRecDepth 100000 in
set_option maxHeartbeats 4000000 in
theorem dcmp2_any (a b : Dig) (w : World) : Calls Tryz.prog 86 #[digV a, digV b] w (CmE a b w) := by
  obtain ⟨a1, a2⟩ := a; obtain ⟨b1, b2⟩ := b
  obtain ⟨z, hz⟩ : ∃ z, cmpD (a1, a2) (b1, b2) = z := ⟨_, rfl⟩
  have HZ := Lib.hid hz
  clear hz
  unfold CmE
  rw [HZ.out]
  simp only [digV]
  obtain ⟨W, hW⟩ : ∃ W, (w.alloc (.cells #[.int .u64 a1, .int .u64 a2] 30)).alloc (.cells #[.int .u64 b1, .int .u64 b2] 30) = W := ⟨_, rfl⟩
  have HA : Hid (Bk W w.heap.size 30 #[.int .u64 a1, .int .u64 a2]) := by rw [← hW]; exact (Bk.new w _ _).alloc _
  have HB : Hid (Bk W (w.heap.size + 1) 30 #[.int .u64 b1, .int .u64 b2]) := by
    rw [← hW]
    have := Bk.new (w.alloc (.cells #[.int .u64 a1, .int .u64 a2] 30)) 30 #[.int .u64 b1, .int .u64 b2]
    rw [World.size_alloc] at this; exact this
  have HL : Hid (Below w.heap.size w W) := by rw [← hW]; exact ((Below.refl _ w).alloc (Nat.le_refl _) _).alloc (by simp) _
  have hzW : w.heap.size + 2 = W.heap.size := by rw [← hW]; simp
  obtain ⟨c0, c1, _, _⟩ := HA.out.two
  obtain ⟨c2, c3, _, _⟩ := HB.out.two
  go_enter Tryz.func86, Tryz.ntmps86
  by_cases h1 : a1 < b1
  · have H1 : Hid (z = -1) := by show _ = _; rw [← HZ.out]; exact cmpD_lt1 h1
    go_wp2_with fail
    go_loopw [5] (fun i wr => i = .int .i64 0 ∧ wr = W) (fun i _ => 0)
    case atStart => exact ⟨rfl, rfl⟩
    case round =>
      obtain ⟨rfl, rfl⟩ := hrel
      go_wp2_with fail
      go_quiet (fail)
      go_wp2_with fail
      go_ret
      exact ⟨by rw [H1.out]; rfl, below_drewN HL.out _⟩
  by_cases g1 : b1 < a1
  · have H1 : Hid (z = 1) := by show _ = _; rw [← HZ.out]; exact cmpD_gt1 g1
    go_wp2_with fail
    go_loopw [5] (fun i wr => i = .int .i64 0 ∧ wr = W) (fun i _ => 0)
    case atStart => exact ⟨rfl, rfl⟩
    case round =>
      obtain ⟨rfl, rfl⟩ := hrel
      go_wp2_with fail
      go_quiet (fail)
      go_wp2_with fail
      go_quiet (fail)
      go_wp2_with fail
      go_ret
      exact ⟨by rw [H1.out]; rfl, below_drewN (below_drewN HL.out _) _⟩
  have H1 : Hid (z = cmpI a2 b2) := by show _ = _; rw [← HZ.out]; exact cmpD_snd h1 g1
  by_cases h2 : a2 < b2
  · have H2 : Hid (z = -1) := by show _ = _; rw [H1.out]; unfold cmpI; rw [if_pos h2]
    go_wp2_with fail
    go_loopw [5] (fun i wr => ∃ k nq : Nat, k ≤ 1 ∧ i = .int .i64 k ∧ wr = W.drewN nq) (fun i _ => 2 - (intOf i).toNat)
    case atStart => exact ⟨0, 0, by omega, rfl, rfl⟩
    case round =>
      obtain ⟨k, nq, hk, rfl, rfl⟩ := hrel
      rcases (by omega : k = 0 ∨ k = 1) with rfl | rfl
      · go_wp2_with fail
        go_quiet (fail)
        go_wp2_with fail
        go_quiet (fail)
        go_wp2_with fail
        go_roundw
        case rel => exact ⟨1, _, by omega, by go_num, rfl⟩
        case measure => simp [intOf]
      · go_wp2_with fail
        go_quiet (fail)
        go_wp2_with fail
        go_ret
        exact ⟨by rw [H2.out]; rfl, below_drewN (below_drewN HL.out _) _⟩
  by_cases g2 : b2 < a2
  · have H2 : Hid (z = 1) := by show _ = _; rw [H1.out]; unfold cmpI; rw [if_neg h2, if_pos g2]
    go_wp2_with fail
    go_loopw [5] (fun i wr => ∃ k nq : Nat, k ≤ 1 ∧ i = .int .i64 k ∧ wr = W.drewN nq) (fun i _ => 2 - (intOf i).toNat)
    case atStart => exact ⟨0, 0, by omega, rfl, rfl⟩
    case round =>
      obtain ⟨k, nq, hk, rfl, rfl⟩ := hrel
      rcases (by omega : k = 0 ∨ k = 1) with rfl | rfl
      · go_wp2_with fail
        go_quiet (fail)
        go_wp2_with fail
        go_quiet (fail)
        go_wp2_with fail
        go_roundw
        case rel => exact ⟨1, _, by omega, by go_num, rfl⟩
        case measure => simp [intOf]
      · go_wp2_with fail
        go_quiet (fail)
        go_wp2_with fail
        go_quiet (fail)
        go_wp2_with fail
        go_ret
        exact ⟨by rw [H2.out]; rfl, below_drewN (below_drewN (below_drewN HL.out _) _) _⟩
  · have H2 : Hid (z = 0) := by show _ = _; rw [H1.out]; unfold cmpI; rw [if_neg h2, if_neg g2]
    go_wp2_with fail
    go_loopw [5] (fun i wr => ∃ k nq : Nat, k ≤ 2 ∧ i = .int .i64 k ∧ wr = W.drewN nq) (fun i _ => 2 - (intOf i).toNat)
    case atStart => exact ⟨0, 0, by omega, rfl, rfl⟩
    case round =>
      obtain ⟨k, nq, hk, rfl, rfl⟩ := hrel
      rcases (by omega : k = 0 ∨ k = 1 ∨ k = 2) with rfl | rfl | rfl
      · go_wp2_with fail
        go_quiet (fail)
        go_wp2_with fail
        go_quiet (fail)
        go_wp2_with fail
        go_roundw
        case rel => exact ⟨1, _, by omega, by go_num, rfl⟩
        case measure => simp [intOf]
      · go_wp2_with fail
        go_quiet (fail)
        go_wp2_with fail
        go_quiet (fail)
        go_wp2_with fail
        go_roundw
        case rel => exact ⟨2, _, by omega, by go_num, rfl⟩
        case measure => simp [intOf]
      · go_wp2_with fail
        go_ret
        exact ⟨by rw [H2.out]; rfl, below_drewN HL.out _⟩
end Go.Proofs.YtmdhlkkekidknaaGreatDoor

namespace Go.Proofs.YtmdhlkkekidknaaGreatDoor
open Go.RowKit

def itC (i : Itm) : List Value := [.int .u64 i.1.1, .int .u64 i.1.2, .string i.2]
def itV (i : Itm) : Value := .agg #[.int .u64 i.1.1, .int .u64 i.1.2, .string i.2]
theorem itC_len (i : Itm) : (itC i).length = 3 := rfl
theorem Sl.it {w : World} {B n k : Nat} {A : Option Addr} {l : List Itm} (h : Sl w B 3 A n (flat itC l)) (hk : k < n) :
    ∃ b off i, A = some ⟨b, off, none⟩ ∧ b < B ∧ l[k]? = some i ∧ w.cell? ⟨b, off + k * 3, none⟩ = some (.int .u64 i.1.1) ∧ w.cell? ⟨b, off + k * 3 + 1, none⟩ = some (.int .u64 i.1.2) ∧ w.cell? ⟨b, off + k * 3 + 2, none⟩ = some (.string i.2) := by
  obtain ⟨b, off, x, e, hb, hx, hc⟩ := h.at_ itC_len (by omega) hk
  exact ⟨b, off, x, e, hb, hx, hc 0 _ rfl, hc 1 _ rfl, hc 2 _ rfl⟩
theorem Bk.three {w : World} {b : Nat} {t : TypeId} {x y z : Value} (h : Bk w b t #[x, y, z]) : w.cell? ⟨b, 0, none⟩ = some x ∧ w.cell? ⟨b, 1, none⟩ = some y ∧ w.cell? ⟨b, 2, none⟩ = some z := by
  have c0 := h.cell 0; have c1 := h.cell 1; have c2 := h.cell 2
  simp at c0 c1 c2
  exact ⟨c0, c1, c2⟩
set_option maxHeartbeats 1000000 in
theorem find1_any (i : Itm) (d : Dig) (w : World) : Calls Tryz.prog 104 #[itV i, digV d] w (CmE i.1 d w) := by
  obtain ⟨⟨i1, i2⟩, s⟩ := i
  obtain ⟨d1, d2⟩ := d
  obtain ⟨z, hz⟩ : ∃ z, cmpD (i1, i2) (d1, d2) = z := ⟨_, rfl⟩
  obtain ⟨W, hW⟩ : ∃ W, (w.alloc (.cells #[.int .u64 i1, .int .u64 i2, .string s] 38)).alloc (.cells #[.int .u64 d1, .int .u64 d2] 30) = W := ⟨_, rfl⟩
  have HA : Hid (Bk W w.heap.size 38 #[.int .u64 i1, .int .u64 i2, .string s]) := by rw [← hW]; exact (Bk.new w _ _).alloc _
  have HB : Hid (Bk W (w.heap.size + 1) 30 #[.int .u64 d1, .int .u64 d2]) := by
    rw [← hW]
    have := Bk.new (w.alloc (.cells #[.int .u64 i1, .int .u64 i2, .string s] 38)) 30 #[.int .u64 d1, .int .u64 d2]
    rw [World.size_alloc] at this; exact this
  have HL : Hid (Below w.heap.size w W) := by rw [← hW]; exact ((Below.refl _ w).alloc (Nat.le_refl _) _).alloc (by simp) _
  have hzW : w.heap.size ≤ W.heap.size := HL.out.size
  have HC := Lib.hid (dcmp_any (i1, i2) (d1, d2) W)
  unfold CmE at HC ⊢
  simp only
  rw [hz] at HC ⊢
  simp only [digV, itV] at HC ⊢
  clear hz
  obtain ⟨c0, c1, _⟩ := HA.out.three
  obtain ⟨c2, c3, _, _⟩ := HB.out.two
  go_enter Tryz.func104, Tryz.ntmps104
  go_wp2_with fail
  refine HC.out.mono ?_
  rintro e w2 ⟨rfl, hb⟩
  go_wp2_with fail
  go_ret
  exact ⟨rfl, HL.out.trans (hb.mono hzW)⟩
theorem findP_at {p : List Itm} {d : Dig} {i : Itm} (h : p[atD p d]? = some i) : (findP p d).isSome = decide (cmpD i.1 d = 0) := by
  unfold findP
  rw [h]
  simp only
  by_cases e : i.1 = d
  · rw [if_pos e, decide_eq_true ((cmpD_zero _ _).2 e)]; rfl
  · rw [if_neg e, decide_eq_false (fun h => e ((cmpD_zero _ _).1 h))]; rfl
theorem findP_end {p : List Itm} {d : Dig} (h : p.length ≤ atD p d) : (findP p d).isSome = false := by
  unfold findP
  rw [List.getElem?_eq_none h]; rfl
def BsE (p : List Itm) (d : Dig) (w : World) (e : Ending) (w' : World) : Prop := e = .returned (.tuple #[.int .i64 (atD p d : Nat), .bool (findP p d).isSome]) ∧ Below w.heap.size w w'
set_option maxRecDepth 100000 in
set_option maxHeartbeats 4000000 in
theorem bsd_any (A : Option Addr) (n c B : Nat) (p : List Itm) (d : Dig) (w : World) (h0 : Sl w B 3 A n (flat itC p)) (hB : B ≤ w.heap.size) (hn : n ≤ 1000000) (ha : AscI p) :
    Calls Tryz.prog 103 #[.slice A n c, digV d, .func (.func 104) #[] #[]] w (BsE p d w) := by
  have HL := Lib.hid (h0.len itC_len (by omega))
  have H0 := Lib.hid h0; have HA := Lib.hid ha
  clear h0 ha
  obtain ⟨d1, d2⟩ := d
  obtain ⟨m, hm⟩ : ∃ m, atD p (d1, d2) = m := ⟨_, rfl⟩
  have hmn : m ≤ n := by rw [← hm, ← HL.out]; exact atD_le _ _
  have HM := Lib.hid hm
  obtain ⟨q, hq⟩ : ∃ q, (findP p (d1, d2)).isSome = q := ⟨_, rfl⟩
  have HQ := Lib.hid hq
  unfold BsE
  rw [hm, hq]
  clear hm hq
  obtain ⟨W, hW⟩ : ∃ W, w.alloc (.cells #[.int .u64 d1, .int .u64 d2] 30) = W := ⟨_, rfl⟩
  have HB0 : Hid (Below w.heap.size w W) := by rw [← hW]; exact (Below.refl _ w).alloc (Nat.le_refl _) _
  have HK : Hid (Bk W w.heap.size 30 #[.int .u64 d1, .int .u64 d2]) := by rw [← hW]; exact Bk.new w _ _
  have zk : w.heap.size < W.heap.size := HK.out.lt
  simp only [digV]
  go_enter Tryz.func103, Tryz.ntmps103
  go_wp2_with fail
  clear hW
  go_loopw [9, 10] (fun i j wr => ∃ a b : Nat, i = .int .i64 (a : Int) ∧ j = .int .i64 (b : Int) ∧ a ≤ m ∧ m ≤ b ∧ b ≤ n ∧ Hid (Below W.heap.size W wr)) (fun i j _ => (intOf j).toNat - (intOf i).toNat)
  case atStart => exact ⟨0, n, rfl, rfl, Nat.zero_le _, hmn, Nat.le_refl _, Below.refl _ _⟩
  case round =>
    obtain ⟨a, b, rfl, rfl, ham, hmb, hbn, hBel⟩ := hrel
    have HBw : Hid (Below w.heap.size w wr) := HB0.out.trans (hBel.out.mono HB0.out.size)
    obtain ⟨x0, x1, _, _⟩ := (HK.out.below hBel.out zk).two
    by_cases hlt : a < b
    · have hlz : (a : Int) < (b : Int) := by omega
      obtain ⟨h, hh⟩ : ∃ h, (a + b) / 2 = h := ⟨_, rfl⟩
      have hah : a ≤ h := by omega
      have hhb : h < b := by omega
      obtain ⟨bb, off, i, rfl, hbB, hx, y0, y1, y2⟩ := (H0.out.below HBw.out hB).it (k := h) (by omega)
      have HX := Lib.hid hx; clear hx
      obtain ⟨⟨i1, i2⟩, s⟩ := i
      simp only at y0 y1 y2
      obtain ⟨z, hz⟩ : ∃ z, cmpD (i1, i2) (d1, d2) = z := ⟨_, rfl⟩
      have HZ := Lib.hid hz
      have HC2 : Hid (∀ w, Calls Tryz.prog 104 #[.agg #[.int .u64 i1, .int .u64 i2, .string s], .agg #[.int .u64 d1, .int .u64 d2]] w fun e w' => e = .returned (.int .i64 z) ∧ Below w.heap.size w w') := fun w => by
        have := find1_any ((i1, i2), s) (d1, d2) w
        unfold CmE at this
        simp only [hz] at this
        exact this
      have hh' : ((a : Int) + (b : Int)) / 2 = (h : Int) := by omega
      have zwr : w.heap.size < wr.heap.size := Nat.lt_of_lt_of_le zk hBel.out.size
      have hhn : h < n := by omega
      clear hz
      by_cases hl : ltD (i1, i2) (d1, d2)
      · have hzn : z < 0 := by rw [← HZ.out]; exact (cmpD_lt _ _).2 hl
        have hhm : h < m := by
          rcases Nat.lt_or_ge h m with h1 | h1
          · exact h1
          · exact absurd hl (atD_above HA.out HX.out (by rw [HM.out]; exact h1))
        clear hl
        go_wp2_with fail
        have k0 := y0; have k1 := y1; have k2 := y2; have g0 := x0; have g1 := x1
        refine wp_region_stableGD 7 (24 :: 25 :: 26 :: 27 :: 28 :: 29 :: 30 :: []) (by kernel_rfl) (by kernel_rfl) (by kernel_rfl) (fun W => Below wr.heap.size wr W) (fun W W' => Below W.heap.size W W')
          (vPhi ((.func (.func 104) #[] #[]) :: (.slice (some ⟨bb, off, none⟩) n c) :: (.int .i64 h) :: (.pointer (some ⟨bb, off + h * 3, none⟩)) :: (.agg #[.int .u64 i1, .int .u64 i2, .string s]) :: (.agg #[.int .u64 d1, .int .u64 d2]) :: (.int .i64 z) :: [])) (fun W W' h1 h2 => h1.trans (h2.mono h1.size)) (fun i v W W' h _ => h) (Below.refl _ _).drew ?stepA ?tailA
        case stepA =>
          intro i o vs W hi ho hv hR hphi
          obtain ⟨v0, v1, v2, v3, v4, v5, v6, rfl⟩ := ls7 hv
          simp only [List.zip, List.zipWith, putAll, Act.put, List.setIfInBounds_toArray, List.set]
          have hWz := hR.size
          have y0 := (hR.cell (p := ⟨bb, off + h * 3, none⟩) (by show bb < _; omega)).trans k0
          have y1 := (hR.cell (p := ⟨bb, off + h * 3 + 1, none⟩) (by show bb < _; omega)).trans k1
          have y2 := (hR.cell (p := ⟨bb, off + h * 3 + 2, none⟩) (by show bb < _; omega)).trans k2
          have x0 := (hR.cell (p := ⟨w.heap.size, 0, none⟩) (by show w.heap.size < _; omega)).trans g0
          have x1 := (hR.cell (p := ⟨w.heap.size, 1, none⟩) (by show w.heap.size < _; omega)).trans g1
          match i, hi, ho with
          | 0, _, rfl =>
            exact .inl ⟨rfl, gives_value (v := .func (.func 104) #[] #[]) (w' := W) (by go_simp) ⟨Below.refl _ _, fun u hu => by cases hu; rfl⟩⟩
          | 1, _, rfl =>
            exact .inl ⟨rfl, gives_value (v := .slice (some ⟨bb, off, none⟩) n c) (w' := W) (by go_simp) ⟨Below.refl _ _, fun u hu => by cases hu; rfl⟩⟩
          | 2, _, rfl =>
            exact .inl ⟨rfl, gives_value (v := .int .i64 h) (w' := W) (by go_simp) ⟨Below.refl _ _, fun u hu => by cases hu; rfl⟩⟩
          | 3, _, rfl =>
            have e1 : v1 = _ := hphi ⟨1, .data⟩ (by simp) rfl v1 rfl _ rfl
            have e2 : v2 = _ := hphi ⟨2, .data⟩ (by simp) rfl v2 rfl _ rfl
            subst e1 e2
            exact .inl ⟨rfl, gives_value (v := .pointer (some ⟨bb, off + h * 3, none⟩)) (w' := W) (by go_simp) ⟨Below.refl _ _, fun u hu => by cases hu; rfl⟩⟩
          | 4, _, rfl =>
            have e3 : v3 = _ := hphi ⟨3, .data⟩ (by simp) rfl v3 rfl _ rfl
            subst e3
            exact .inl ⟨rfl, gives_value (v := .agg #[.int .u64 i1, .int .u64 i2, .string s]) (w' := W) (by go_simp) ⟨Below.refl _ _, fun u hu => by cases hu; rfl⟩⟩
          | 5, _, rfl =>
            exact .inl ⟨rfl, gives_value (v := .agg #[.int .u64 d1, .int .u64 d2]) (w' := W) (by go_simp) ⟨Below.refl _ _, fun u hu => by cases hu; rfl⟩⟩
          | 6, _, rfl =>
            have e0 : v0 = _ := hphi ⟨0, .data⟩ (by simp) rfl v0 rfl _ rfl
            have e4 : v4 = _ := hphi ⟨4, .data⟩ (by simp) rfl v4 rfl _ rfl
            have e5 : v5 = _ := hphi ⟨5, .data⟩ (by simp) rfl v5 rfl _ rfl
            subst e0 e4 e5
            refine .inl ⟨rfl, gives_call (f := 104) (args := #[.agg #[.int .u64 i1, .int .u64 i2, .string s], .agg #[.int .u64 d1, .int .u64 d2]]) (by go_simp) ((HC2.out W).mono ?_)⟩
            rintro e W' ⟨rfl, hb⟩
            exact ⟨_, rfl, hb, fun u hu => by cases hu; rfl⟩
          | i + 7, hi, _ => exact absurd hi (by omega)
        case tailA =>
          intro vs W hv hR hphi
          obtain ⟨v0, v1, v2, v3, v4, v5, v6, rfl⟩ := ls7 hv
          simp only [List.zip, List.zipWith, putAll, Act.put, List.setIfInBounds_toArray, List.set, List.drop]
          have e0 : v0 = _ := hphi 0 v0 rfl _ rfl
          have e1 : v1 = _ := hphi 1 v1 rfl _ rfl
          have e2 : v2 = _ := hphi 2 v2 rfl _ rfl
          have e3 : v3 = _ := hphi 3 v3 rfl _ rfl
          have e4 : v4 = _ := hphi 4 v4 rfl _ rfl
          have e5 : v5 = _ := hphi 5 v5 rfl _ rfl
          have e6 : v6 = _ := hphi 6 v6 rfl _ rfl
          subst e0 e1 e2 e3 e4 e5 e6
          clear hphi hv
          go_wp2_with fail
          go_roundw
          case rel => exact ⟨h + 1, b, by go_num, rfl, by omega, hmb, hbn, hBel.out.trans (hR.mono hBel.out.size)⟩
          case measure => simp [intOf]; omega
      · have hzn : ¬ z < 0 := by rw [← HZ.out]; exact fun h => hl ((cmpD_lt _ _).1 h)
        have hhm : m ≤ h := by
          rcases Nat.lt_or_ge h m with h1 | h1
          · exact absurd (atD_below HA.out HX.out (by rw [HM.out]; exact h1)) hl
          · exact h1
        clear hl
        go_wp2_with fail
        have k0 := y0; have k1 := y1; have k2 := y2; have g0 := x0; have g1 := x1
        refine wp_region_stableGD 7 (24 :: 25 :: 26 :: 27 :: 28 :: 29 :: 30 :: []) (by kernel_rfl) (by kernel_rfl) (by kernel_rfl) (fun W => Below wr.heap.size wr W) (fun W W' => Below W.heap.size W W')
          (vPhi ((.func (.func 104) #[] #[]) :: (.slice (some ⟨bb, off, none⟩) n c) :: (.int .i64 h) :: (.pointer (some ⟨bb, off + h * 3, none⟩)) :: (.agg #[.int .u64 i1, .int .u64 i2, .string s]) :: (.agg #[.int .u64 d1, .int .u64 d2]) :: (.int .i64 z) :: [])) (fun W W' h1 h2 => h1.trans (h2.mono h1.size)) (fun i v W W' h _ => h) (Below.refl _ _).drew ?stepB ?tailB
        case stepB =>
          intro i o vs W hi ho hv hR hphi
          obtain ⟨v0, v1, v2, v3, v4, v5, v6, rfl⟩ := ls7 hv
          simp only [List.zip, List.zipWith, putAll, Act.put, List.setIfInBounds_toArray, List.set]
          have hWz := hR.size
          have y0 := (hR.cell (p := ⟨bb, off + h * 3, none⟩) (by show bb < _; omega)).trans k0
          have y1 := (hR.cell (p := ⟨bb, off + h * 3 + 1, none⟩) (by show bb < _; omega)).trans k1
          have y2 := (hR.cell (p := ⟨bb, off + h * 3 + 2, none⟩) (by show bb < _; omega)).trans k2
          have x0 := (hR.cell (p := ⟨w.heap.size, 0, none⟩) (by show w.heap.size < _; omega)).trans g0
          have x1 := (hR.cell (p := ⟨w.heap.size, 1, none⟩) (by show w.heap.size < _; omega)).trans g1
          match i, hi, ho with
          | 0, _, rfl =>
            exact .inl ⟨rfl, gives_value (v := .func (.func 104) #[] #[]) (w' := W) (by go_simp) ⟨Below.refl _ _, fun u hu => by cases hu; rfl⟩⟩
          | 1, _, rfl =>
            exact .inl ⟨rfl, gives_value (v := .slice (some ⟨bb, off, none⟩) n c) (w' := W) (by go_simp) ⟨Below.refl _ _, fun u hu => by cases hu; rfl⟩⟩
          | 2, _, rfl =>
            exact .inl ⟨rfl, gives_value (v := .int .i64 h) (w' := W) (by go_simp) ⟨Below.refl _ _, fun u hu => by cases hu; rfl⟩⟩
          | 3, _, rfl =>
            have e1 : v1 = _ := hphi ⟨1, .data⟩ (by simp) rfl v1 rfl _ rfl
            have e2 : v2 = _ := hphi ⟨2, .data⟩ (by simp) rfl v2 rfl _ rfl
            subst e1 e2
            exact .inl ⟨rfl, gives_value (v := .pointer (some ⟨bb, off + h * 3, none⟩)) (w' := W) (by go_simp) ⟨Below.refl _ _, fun u hu => by cases hu; rfl⟩⟩
          | 4, _, rfl =>
            have e3 : v3 = _ := hphi ⟨3, .data⟩ (by simp) rfl v3 rfl _ rfl
            subst e3
            exact .inl ⟨rfl, gives_value (v := .agg #[.int .u64 i1, .int .u64 i2, .string s]) (w' := W) (by go_simp) ⟨Below.refl _ _, fun u hu => by cases hu; rfl⟩⟩
          | 5, _, rfl =>
            exact .inl ⟨rfl, gives_value (v := .agg #[.int .u64 d1, .int .u64 d2]) (w' := W) (by go_simp) ⟨Below.refl _ _, fun u hu => by cases hu; rfl⟩⟩
          | 6, _, rfl =>
            have e0 : v0 = _ := hphi ⟨0, .data⟩ (by simp) rfl v0 rfl _ rfl
            have e4 : v4 = _ := hphi ⟨4, .data⟩ (by simp) rfl v4 rfl _ rfl
            have e5 : v5 = _ := hphi ⟨5, .data⟩ (by simp) rfl v5 rfl _ rfl
            subst e0 e4 e5
            refine .inl ⟨rfl, gives_call (f := 104) (args := #[.agg #[.int .u64 i1, .int .u64 i2, .string s], .agg #[.int .u64 d1, .int .u64 d2]]) (by go_simp) ((HC2.out W).mono ?_)⟩
            rintro e W' ⟨rfl, hb⟩
            exact ⟨_, rfl, hb, fun u hu => by cases hu; rfl⟩
          | i + 7, hi, _ => exact absurd hi (by omega)
        case tailB =>
          intro vs W hv hR hphi
          obtain ⟨v0, v1, v2, v3, v4, v5, v6, rfl⟩ := ls7 hv
          simp only [List.zip, List.zipWith, putAll, Act.put, List.setIfInBounds_toArray, List.set, List.drop]
          have e0 : v0 = _ := hphi 0 v0 rfl _ rfl
          have e1 : v1 = _ := hphi 1 v1 rfl _ rfl
          have e2 : v2 = _ := hphi 2 v2 rfl _ rfl
          have e3 : v3 = _ := hphi 3 v3 rfl _ rfl
          have e4 : v4 = _ := hphi 4 v4 rfl _ rfl
          have e5 : v5 = _ := hphi 5 v5 rfl _ rfl
          have e6 : v6 = _ := hphi 6 v6 rfl _ rfl
          subst e0 e1 e2 e3 e4 e5 e6
          clear hphi hv
          go_wp2_with fail
          go_roundw
          case rel => exact ⟨a, h, rfl, by go_num, ham, hhm, by omega, hBel.out.trans (hR.mono hBel.out.size)⟩
          case measure => simp [intOf]; omega
    · have hlz : ¬ (a : Int) < (b : Int) := by omega
      obtain rfl : a = m := by omega
      obtain rfl : b = a := by omega
      by_cases hbn' : b < n
      · obtain ⟨bb, off, i, rfl, hbB, hx, y0, y1, y2⟩ := (H0.out.below HBw.out hB).it (k := b) hbn'
        have HF := Lib.hid (findP_at (d := (d1, d2)) (i := i) (by rw [HM.out]; exact hx)); clear hx
        rw [HQ.out] at HF
        obtain ⟨⟨i1, i2⟩, s⟩ := i
        simp only at y0 y1 y2 HF
        obtain ⟨z, hz⟩ : ∃ z, cmpD (i1, i2) (d1, d2) = z := ⟨_, rfl⟩
        have HC2 : Hid (∀ w, Calls Tryz.prog 104 #[.agg #[.int .u64 i1, .int .u64 i2, .string s], .agg #[.int .u64 d1, .int .u64 d2]] w fun e w' => e = .returned (.int .i64 z) ∧ Below w.heap.size w w') := fun w => by
          have := find1_any ((i1, i2), s) (d1, d2) w
          unfold CmE at this
          simp only [hz] at this
          exact this
        rw [hz] at HF
        have hlz' : (b : Int) < (n : Int) := by omega
        have zwr : w.heap.size < wr.heap.size := Nat.lt_of_lt_of_le zk hBel.out.size
        clear hz
        go_wp2_with fail
        go_region_held3 (fun w' => w'.cell? ⟨bb, off + b * 3, none⟩ = some (.int .u64 i1) ∧ w'.cell? ⟨bb, off + b * 3 + 1, none⟩ = some (.int .u64 i2) ∧ w'.cell? ⟨bb, off + b * 3 + 2, none⟩ = some (.string s) ∧ w'.cell? ⟨w.heap.size, 0, none⟩ = some (.int .u64 d1) ∧ w'.cell? ⟨w.heap.size, 1, none⟩ = some (.int .u64 d2))
          (first | exact ⟨y0, y1, y2, x0, x1⟩ | exact ⟨m0.out, m1.out, m2.out, m3.out, m4.out⟩)
          (first
            | (go_at_call 104; refine (HC2.out _).mono ?_; rintro e w2 ⟨rfl, hb2⟩
               have m0 := Lib.hid ((hb2.cell (p := ⟨bb, off + b * 3, none⟩) (by show bb < _; simp; omega)).trans y0); have m1 := Lib.hid ((hb2.cell (p := ⟨bb, off + b * 3 + 1, none⟩) (by show bb < _; simp; omega)).trans y1); have m2 := Lib.hid ((hb2.cell (p := ⟨bb, off + b * 3 + 2, none⟩) (by show bb < _; simp; omega)).trans y2); have m3 := Lib.hid ((hb2.cell (p := ⟨w.heap.size, 0, none⟩) (by show w.heap.size < _; simp; omega)).trans x0); have m4 := Lib.hid ((hb2.cell (p := ⟨w.heap.size, 1, none⟩) (by show w.heap.size < _; simp; omega)).trans x1)
               have hR : Hid (Below wr.heap.size wr w2) := (Below.refl _ wr).drew.trans hb2
               clear hb2))
        go_wp2_with fail
        go_ret2
        exact ⟨by rw [HF.out]; rfl, HBw.out.trans (hR.out.mono HBw.out.size)⟩
      · have HF : Hid (q = false) := by
          show _ = _; rw [← HQ.out]
          exact findP_end (by rw [HM.out, HL.out]; omega)
        have hlz' : ¬ (b : Int) < (n : Int) := by omega
        go_wp2_with fail
        go_quiet (fail)
        go_wp2_with fail
        go_ret2
        exact ⟨by rw [HF.out]; rfl, below_drewN HBw.out _⟩
set_option maxHeartbeats 1000000 in
theorem pfind_any (A : Option Addr) (n c B : Nat) (p : List Itm) (d : Dig) (w : World) (h0 : Sl w B 3 A n (flat itC p)) (hB : B ≤ w.heap.size) (hn : n ≤ 1000000) (ha : AscI p) :
    Calls Tryz.prog 51 #[.slice A n c, digV d] w (BsE p d w) := by
  obtain ⟨d1, d2⟩ := d
  obtain ⟨W, hW⟩ : ∃ W, w.alloc (.cells #[.int .u64 d1, .int .u64 d2] 30) = W := ⟨_, rfl⟩
  have HB0 : Hid (Below w.heap.size w W) := by rw [← hW]; exact (Below.refl _ w).alloc (Nat.le_refl _) _
  have HK : Hid (Bk W w.heap.size 30 #[.int .u64 d1, .int .u64 d2]) := by rw [← hW]; exact Bk.new w _ _
  have HC := Lib.hid (bsd_any A n c B p (d1, d2) W (h0.below HB0.out hB) (Nat.le_trans hB HB0.out.size) hn ha)
  clear h0
  unfold BsE at HC ⊢
  simp only [digV] at HC ⊢
  obtain ⟨x0, x1, _, _⟩ := HK.out.two
  go_enter Tryz.func51, Tryz.ntmps51
  go_wp2_with fail
  refine HC.out.mono ?_
  rintro e w2 ⟨rfl, hb⟩
  have HB2 := Lib.hid hb; clear hb
  go_wp2_with fail
  go_ret2
  exact ⟨rfl, HB0.out.trans (HB2.out.mono HB0.out.size)⟩
end Go.Proofs.YtmdhlkkekidknaaGreatDoor

namespace Go.Proofs.YtmdhlkkekidknaaGreatDoor
open Go.RowKit

section
variable {P : Program} {w : World} {base size n c : Nat} {e : TypeId} {A : Option Addr} {xs : List Value}
theorem step_append_apd {ops : Array Oper} {o : Oper} {a : Act} {K : Act → World → Prop} {Q : Exit → Act → World → Prop} {E : Prop} (hgd : o.guard = none) (s x : Operand) (t : TypeId)
    (ho : o.op = .call { callee := .builtin .append, args := #[s, x], argTypes := #[t, t] })
    (base : Nat) (e : TypeId) (i : TypeInfo) (z : Value) (size bytes : Nat) (ht : P.underlying t = some (.slice e)) (hi : P.info? e = some i) (hz : i.zero = some z)
    (hsize : i.size = size) (hby : i.bytes = bytes) (hzs : z.cells.size = size) (hsz : 0 < size)
    (A : Option Addr) (n c : Nat) (xs : List Value) (hs : a.eval s = .slice A n c) (hown : Apd w base e size A n c xs)
    (B : Nat) (A' : Option Addr) (m c' : Nat) (ys : List Value) (hx : a.eval x = .slice A' m c') (hsl : Sl w B size A' m ys) (h1 : ∀ u ∈ ys, u.oneCell' = true)
    (h63 : n + m ≤ maxLen) (hbytes : (n + m) * bytes ≤ 140737488355328) (hbase : base ≤ w.heap.size)
    (h : ∀ A2 c2 w', Apd w' base e size A2 (n + m) c2 (xs ++ ys) → Below base w w' → n + m ≤ c2 → c2 ≤ maxLen → K (a.put o.dst (.slice A2 (n + m) c2)) w') :
    if Region.wanted o (yielded ops a.tmps) = true then Oper.wp P o a w K Q else E := by
  have hw : Region.wanted o (yielded ops a.tmps) = true := by simp [Region.wanted, hgd]
  rw [if_pos hw]
  obtain ⟨A2, c2, w', hr, ho', hg, hc1, hc2, _⟩ := run_append_apd (P := P) t o.type i z bytes ht hi hz hsize hby hzs hsz hown (c' := c') hsl h1 h63 hbytes hbase
  unfold Oper.wp
  simp [execOp, ho, resolve, invoke, builtin, hs, hx, hr, Result.andThen]
  exact h A2 c2 w' ho' hg hc1 hc2
end
end Go.Proofs.YtmdhlkkekidknaaGreatDoor

namespace Go.Proofs.YtmdhlkkekidknaaGreatDoor
open Go.RowKit

theorem infoIt : (Tryz.prog.info? 38).map (fun i => (i.zero, i.size, i.bytes)) = some (some (.agg #[.int .u64 0, .int .u64 0, .string ⟨#[]⟩]), 3, 32) := by kernel_rfl
theorem itC_one (l : List Itm) : ∀ u ∈ flat itC l, u.oneCell' = true := fun u hu => by
  unfold flat at hu
  obtain ⟨i, _, h⟩ := List.mem_flatMap.1 hu
  simp [itC] at h
  rcases h with rfl | rfl | rfl <;> rfl
def GroE (n : Nat) (w : World) (e : Ending) (w' : World) : Prop := ∃ A c, e = .returned (.slice A 0 c) ∧ Apd w' w.heap.size 38 3 A 0 c [] ∧ Below w.heap.size w w' ∧ n ≤ c ∧ c ≤ maxLen
set_option maxHeartbeats 1000000 in
theorem grow_any (n : Nat) (w : World) (h0 : 0 < n) (hn : n ≤ 1000000) : Calls Tryz.prog 208 #[.slice none 0 0, .int .i64 n] w (GroE n w) := by
  obtain ⟨i0, hi, hz0, hz1, hz2⟩ := info_parts infoIt
  have HR : Hid (∀ ty, (Builtin.append_ #[23, 3] ty #[.slice none 0 0, .int .i64 (n : Int)]).run Tryz.prog w = .ok (.slice (some ⟨w.heap.size, 0, none⟩) n (grownCap w n 0 38)) (w.drew.alloc (.cells (#[] ++ Builtin.zeroCells (Value.agg #[.int .u64 0, .int .u64 0, .string ⟨#[]⟩]).cells n ++ Builtin.zeroCells (Value.agg #[.int .u64 0, .int .u64 0, .string ⟨#[]⟩]).cells (grownCap w n 0 38 - n)) 38))) := fun ty => by
    have h := Lib.run_append_grow_zeros w 23 3 ty 38 i0 _ .i64 .i64 Tryz.underlying23 Tryz.underlying3 hi hz0 none 0 0 [] (run_firstCells_none w.drew i0.size 0 0 0) n h0 (by rw [hz1]; omega) (by omega) (by omega) (by rw [hz2]; omega) (growslice_fits (by omega) (by rw [hz2]; omega))
    simp only [Nat.zero_add] at h
    exact h
  clear hi hz0 hz1 hz2
  have hG := grownCap_ge w n 0 38
  have hG2 := grownCap_le_maxLen w n 0 38 (by unfold maxLen; omega)
  obtain ⟨G, hGe⟩ : ∃ G, grownCap w n 0 38 = G := ⟨_, rfl⟩
  rw [hGe] at HR hG hG2
  obtain ⟨W, hW⟩ : ∃ W, w.drew.alloc (.cells (#[] ++ Builtin.zeroCells (Value.agg #[.int .u64 0, .int .u64 0, .string ⟨#[]⟩]).cells n ++ Builtin.zeroCells (Value.agg #[.int .u64 0, .int .u64 0, .string ⟨#[]⟩]).cells (G - n)) 38) = W := ⟨_, rfl⟩
  rw [hW] at HR
  have HB : Hid (Below w.heap.size w W) := by rw [← hW]; exact (Below.refl _ w).drew.alloc (Nat.le_refl _) _
  have HA : Hid (Apd W w.heap.size 38 3 (some ⟨w.heap.size, 0, none⟩) 0 G []) := by
    refine .inl ⟨rfl, .inr ⟨w.heap.size, G, _, rfl, Nat.le_refl _, by rw [← hW]; exact heap_alloc_new w.drew _, Nat.zero_le _, hG2, ?_, by simp⟩⟩
    rw [Array.size_append, Array.size_append, size_zeroCells, size_zeroCells]
    show 0 + n * 3 + (G - n) * 3 = G * 3
    omega
  have HG2 := Lib.hid hG2; have HG := Lib.hid hG
  have hG3 : G ≤ 9223372036854775807 := by unfold maxLen at hG2; exact hG2
  clear hW hGe hG2
  go_enter Tryz.func208, Tryz.ntmps208
  go_wp2_with (at_builtin; refine Lib.wpList_append_run _ rfl _ _ _ _ rfl _ _ rfl rfl _ _ (HR.out _) ?_)
  go_ret
  exact ⟨_, _, rfl, HA.out, HB.out, HG.out, HG2.out⟩
def ConE (n : Nat) (xs : List Itm) (w : World) (e : Ending) (w' : World) : Prop := ∃ A c, e = .returned (.slice A n c) ∧ Apd w' w.heap.size 38 3 A n c (flat itC xs) ∧ Below w.heap.size w w' ∧ n ≤ c ∧ c ≤ maxLen
set_option maxRecDepth 100000 in
set_option maxHeartbeats 4000000 in
theorem concat_any (b B : Nat) (t : TypeId) (A0 A1 A2 : Option Addr) (n0 n1 n2 c0 c1 c2 : Nat) (x0 x1 x2 : List Itm) (w : World) (hk : Bk w b t #[.slice A0 n0 c0, .slice A1 n1 c1, .slice A2 n2 c2])
    (h0 : Sl w B 3 A0 n0 (flat itC x0)) (h1 : Sl w B 3 A1 n1 (flat itC x1)) (h2 : Sl w B 3 A2 n2 (flat itC x2)) (hB : B ≤ w.heap.size) (hn : n0 + n1 + n2 ≤ 1000000) (hpos : 0 < n0 + n1 + n2) :
    Calls Tryz.prog 184 #[.slice (some ⟨b, 0, none⟩) 3 3] w (ConE (n0 + n1 + n2) (x0 ++ x1 ++ x2) w) := by
  have HK := Lib.hid hk
  obtain ⟨k0, k1, k2⟩ := hk.three
  have H0 := Lib.hid h0; have H1 := Lib.hid h1; have H2 := Lib.hid h2
  clear hk h0 h1 h2
  obtain ⟨i0, hi, hz0, hz1, hz2⟩ := info_parts infoIt
  have Hi := Lib.hid hi; have Hz0 := Lib.hid hz0; have Hz1 := Lib.hid hz1; have Hz2 := Lib.hid hz2
  clear hi hz0 hz1 hz2
  go_enter Tryz.func184, Tryz.ntmps184
  go_wp2_with fail
  go_loopw [3, 11] (fun s i wr => ∃ (k s' : Nat), i = .int .i64 (k : Int) ∧ s = .int .i64 (s' : Int) ∧ wr = w ∧ ((k = 0 ∧ s' = 0) ∨ (k = 1 ∧ n0 = s') ∨ (k = 2 ∧ n0 + n1 = s') ∨ (k = 3 ∧ n0 + n1 + n2 = s'))) (fun _ i _ => 3 - (intOf i).toNat)
  case atStart => exact ⟨0, 0, rfl, rfl, rfl, .inl ⟨rfl, rfl⟩⟩
  case round =>
    obtain ⟨k, s, rfl, rfl, rfl, hks⟩ := hrel
    rcases hks with ⟨rfl, rfl⟩ | ⟨rfl, rfl⟩ | ⟨rfl, rfl⟩ | ⟨rfl, rfl⟩
    · go_wp2_with fail
      go_roundw
      case rel => exact ⟨1, n0, by go_num, by go_num, trivial, .inr (.inl ⟨rfl, rfl⟩)⟩
      case measure => simp [intOf]
    · go_wp2_with fail
      go_roundw
      case rel => exact ⟨2, n0 + n1, by go_num, by go_num, trivial, .inr (.inr (.inl ⟨rfl, rfl⟩))⟩
      case measure => simp [intOf]
    · go_wp2_with fail
      go_roundw
      case rel => exact ⟨3, n0 + n1 + n2, by go_num, by go_num, trivial, .inr (.inr (.inr ⟨rfl, rfl⟩))⟩
      case measure => simp [intOf]
    · obtain ⟨wo, hwo⟩ : ∃ wo, wo = wr := ⟨_, rfl⟩
      subst hwo
      have HG := Lib.hid (grow_any (n0 + n1 + n2) wo hpos hn)
      go_wp2_with fail
      refine HG.out.mono ?_
      rintro e w2 ⟨A, c, rfl, ha, hb, hc1, hc2⟩
      have HA := Lib.hid ha; have HB := Lib.hid hb
      obtain ⟨k0, k1, k2⟩ := (HK.out.below hb HK.out.lt).three
      clear ha hb HG
      go_wp2_with fail
      go_loopw [6, 27] (fun r i wq => ∃ (k : Nat) (A' : Option Addr) (m c' : Nat) (xs : List Itm), i = .int .i64 (k : Int) ∧ r = .slice A' m c' ∧ Hid (Apd wq wo.heap.size 38 3 A' m c' (flat itC xs)) ∧ Hid (Below wo.heap.size wo wq) ∧ m ≤ c' ∧ c' ≤ maxLen ∧
        ((k = 0 ∧ m = 0 ∧ xs = []) ∨ (k = 1 ∧ n0 = m ∧ x0 = xs) ∨ (k = 2 ∧ n0 + n1 = m ∧ x0 ++ x1 = xs) ∨ (k = 3 ∧ n0 + n1 + n2 = m ∧ x0 ++ x1 ++ x2 = xs))) (fun _ i _ => 3 - (intOf i).toNat)
      case atStart => exact ⟨0, A, 0, c, [], rfl, rfl, HA.out, HB.out, Nat.zero_le _, hc2, .inl ⟨rfl, rfl, rfl⟩⟩
      case round =>
        obtain ⟨k, A', m, c', xs, rfl, rfl, hA, hBel, hmc, hcm, hks⟩ := hrel
        obtain ⟨k0, k1, k2⟩ := (HK.out.below hBel.out HK.out.lt).three
        rcases hks with ⟨rfl, rfl, rfl⟩ | ⟨rfl, hme, rfl⟩ | ⟨rfl, hme, rfl⟩ | ⟨rfl, hme, rfl⟩
        · have HN : Hid (0 + n0 ≤ maxLen) := by show _ ≤ _; unfold maxLen; omega
          have HY : Hid ((0 + n0) * 32 ≤ 140737488355328) := by show _ ≤ _; omega
          have HS := Lib.hid (H0.out.below hBel.out hB)
          have hm9 : 0 + n0 ≤ 1000000 := by omega
          go_wp2_with (at_builtin; refine halt_ ?_)
          refine unhalt ?_
          refine wpList_append_apd (base := wo.heap.size) (size := 3) _ rfl (.tmp 31) (.tmp 32) 23 rfl 38 i0 _ 32 Tryz.underlying23 Hi.out Hz0.out Hz1.out Hz2.out rfl (by decide) A' 0 c' _ rfl hA.out B _ n0 _ _ rfl HS.out (itC_one _) HN.out HY.out hBel.out.size ?_
          intro A4 c4 w4 ha4 hb4 hn4 hm4 _
          rw [← flat_append] at ha4
          have HA4 := Lib.hid ha4
          have HB4 : Hid (Below wo.heap.size wo w4) := hBel.out.trans hb4
          clear ha4 hb4 hA
          go_wp2_with fail
          go_roundw
          case rel => exact ⟨1, A4, n0, c4, _, by go_num, rfl, (by have := HA4.out; rwa [Nat.zero_add] at this), HB4.out, by omega, hm4, .inr (.inl ⟨rfl, rfl, rfl⟩)⟩
          case measure => simp [intOf]
        · have HN : Hid (m + n1 ≤ maxLen) := by show _ ≤ _; unfold maxLen; omega
          have HY : Hid ((m + n1) * 32 ≤ 140737488355328) := by show _ ≤ _; omega
          have HS := Lib.hid (H1.out.below hBel.out hB)
          have hm9 : m + n1 ≤ 1000000 := by omega
          have HME := Lib.hid hme
          clear hme
          go_wp2_with (at_builtin; refine halt_ ?_)
          refine unhalt ?_
          refine wpList_append_apd (base := wo.heap.size) (size := 3) _ rfl (.tmp 31) (.tmp 32) 23 rfl 38 i0 _ 32 Tryz.underlying23 Hi.out Hz0.out Hz1.out Hz2.out rfl (by decide) A' m c' _ rfl hA.out B _ n1 _ _ rfl HS.out (itC_one _) HN.out HY.out hBel.out.size ?_
          intro A4 c4 w4 ha4 hb4 hn4 hm4 _
          rw [← flat_append] at ha4
          have HA4 := Lib.hid ha4
          have HB4 : Hid (Below wo.heap.size wo w4) := hBel.out.trans hb4
          clear ha4 hb4 hA
          go_wp2_with fail
          go_roundw
          case rel => exact ⟨2, A4, m + n1, c4, _, by go_num, rfl, HA4.out, HB4.out, hn4, hm4, .inr (.inr (.inl ⟨rfl, by rw [HME.out], rfl⟩))⟩
          case measure => simp [intOf]
        · have HN : Hid (m + n2 ≤ maxLen) := by show _ ≤ _; unfold maxLen; omega
          have HY : Hid ((m + n2) * 32 ≤ 140737488355328) := by show _ ≤ _; omega
          have HS := Lib.hid (H2.out.below hBel.out hB)
          have hm9 : m + n2 ≤ 1000000 := by omega
          have HME := Lib.hid hme
          clear hme
          go_wp2_with (at_builtin; refine halt_ ?_)
          refine unhalt ?_
          refine wpList_append_apd (base := wo.heap.size) (size := 3) _ rfl (.tmp 31) (.tmp 32) 23 rfl 38 i0 _ 32 Tryz.underlying23 Hi.out Hz0.out Hz1.out Hz2.out rfl (by decide) A' m c' _ rfl hA.out B _ n2 _ _ rfl HS.out (itC_one _) HN.out HY.out hBel.out.size ?_
          intro A4 c4 w4 ha4 hb4 hn4 hm4 _
          rw [← flat_append] at ha4
          have HA4 := Lib.hid ha4
          have HB4 : Hid (Below wo.heap.size wo w4) := hBel.out.trans hb4
          clear ha4 hb4 hA
          go_wp2_with fail
          go_roundw
          case rel => exact ⟨3, A4, m + n2, c4, _, by go_num, rfl, HA4.out, HB4.out, hn4, hm4, .inr (.inr (.inr ⟨rfl, by rw [HME.out], rfl⟩))⟩
          case measure => simp [intOf]
        · subst hme
          go_wp2_with fail
          go_ret
          exact ⟨_, _, rfl, hA.out, hBel.out, hmc, hcm⟩
def itB (x : Itm) : Array Value := #[.int .u64 x.1.1, .int .u64 x.1.2, .string x.2]
def SlI (x : Itm) (v : Value) (W : World) : Prop := ∃ b0, v = .slice (some ⟨b0, 0, none⟩) 1 1 ∧ Bk W b0 38 (itB x)
def Sl3 (A : Option Addr) (m c : Nat) (Ak : Option Addr) (n' c' : Nat) (x : Itm) (v : Value) (W : World) : Prop :=
  ∃ b0 b1, v = .slice (some ⟨b1, 0, none⟩) 3 3 ∧ Bk W b1 23 #[.slice A m c, .slice (some ⟨b0, 0, none⟩) 1 1, .slice Ak n' c'] ∧ Bk W b0 38 (itB x)
def RsP (base n : Nat) (q : List Itm) (v : Value) (W : World) : Prop := ∃ A c, v = .slice A n c ∧ W.ownsRow base 38 3 (.slice A n c) n (flat itC q) ∧ n ≤ c ∧ c ≤ maxLen
theorem SlI.keep {x : Itm} {v : Value} {W W' : World} (h : SlI x v W) (hb : Below W.heap.size W W') : SlI x v W' := by
  obtain ⟨b0, h1, h2⟩ := h
  exact ⟨b0, h1, h2.below hb h2.lt⟩
theorem Sl3.keep {A Ak : Option Addr} {m c n' c' : Nat} {x : Itm} {v : Value} {W W' : World} (h : Sl3 A m c Ak n' c' x v W) (hb : Below W.heap.size W W') : Sl3 A m c Ak n' c' x v W' := by
  obtain ⟨b0, b1, h1, h2, h3⟩ := h
  exact ⟨b0, b1, h1, h2.below hb h2.lt, h3.below hb h3.lt⟩
theorem ownsRow_upon {w w' : World} {base size n : Nat} {e : TypeId} {v : Value} {xs : List Value} (h : w.ownsRow base e size v n xs) (hb : Below w.heap.size w w') : w'.ownsRow base e size v n xs :=
  h.kept (row := none) ⟨hb.os, hb.tape, hb.output, hb.size, fun k hk _ => hb.block k hk⟩ (by
    cases hv : v.ownBlock with
    | none => exact .inl rfl
    | some k => exact .inr (by simp))
theorem ownsRow_bk {w : World} {base size n b : Nat} {e t : TypeId} {v : Value} {xs : List Value} {cs : Array Value} (h : w.ownsRow base e size v n xs) (hb : Bk w b t cs) (hne : e ≠ t) (i : Nat) (x : Value) : (w.setCell ⟨b, i, none⟩ x).ownsRow base e size v n xs := by
  refine h.kept (row := some b) ⟨rfl, rfl, rfl, by simp, fun k _ hk => Below.heap_setCell _ _ _ k (fun e => hk (by rw [e]))⟩ ?_
  rcases h.2 with ⟨rfl, _⟩ | ⟨g, cap, cur, rfl, _, hh, _⟩
  · exact .inl rfl
  · refine .inr fun he => ?_
    have hgb : g = b := by simpa [Value.ownBlock] using he
    subst hgb
    unfold Bk at hb
    rw [hh] at hb
    have := Option.some.inj hb
    injection this with _ ht _
    exact hne ht
theorem RsP.keep {base n : Nat} {q : List Itm} {v : Value} {W W' : World} (h : RsP base n q v W) (hb : Below W.heap.size W W') : RsP base n q v W' := by
  obtain ⟨A, c, h1, h2, h3, h4⟩ := h
  exact ⟨A, c, h1, ownsRow_upon h2 hb, h3, h4⟩
theorem Apd.own {w : World} {base size n c : Nat} {e : TypeId} {A : Option Addr} {xs : List Value} (h : Apd w base e size A n c xs) (hn : 0 < n) : w.ownsRow base e size (.slice A n c) n xs := by
  rcases h with h | ⟨h, _⟩
  · exact h
  · omega
theorem ownsRow_low {W : World} {base base' size n : Nat} {e : TypeId} {v : Value} {xs : List Value} (h : W.ownsRow base e size v n xs) (hb : base' ≤ base) : W.ownsRow base' e size v n xs := by
  refine ⟨h.1, ?_⟩
  rcases h.2 with hn | ⟨g, cap, cur, hv, hbg, rest⟩
  · exact .inl hn
  · exact .inr ⟨g, cap, cur, hv, Nat.le_trans hb hbg, rest⟩
def Ply (w : World) (base : Nat) (A0 : Option Addr) (c0 : Nat) (p : List Itm) (A : Option Addr) (c : Nat) (q : List Itm) : Prop :=
  (A = A0 ∧ c = c0 ∧ q = p) ∨ w.ownsRow base 38 3 (.slice A q.length c) q.length (flat itC q)
theorem sl_item {W : World} {b0 : Nat} {x : Itm} (h : Bk W b0 38 (itB x)) : Sl W W.heap.size 3 (some ⟨b0, 0, none⟩) 1 (flat itC [x]) := Sl.of_bk (n := 1) h rfl
theorem Sl.it_take {w : World} {B n k : Nat} {A : Option Addr} {l : List Itm} (h : Sl w B 3 A n (flat itC l)) (hk : k ≤ n) : Sl w B 3 A k (flat itC (l.take k)) := h.take_ itC_len (by omega) hk
def InpE (A0 : Option Addr) (c0 : Nat) (p : List Itm) (x : Itm) (w : World) (e : Ending) (w' : World) : Prop :=
  ((∃ q A c, insP p x = some q ∧ e = .returned (.tuple #[.slice A q.length c, .int .i64 0]) ∧ Sl w' w'.heap.size 3 A q.length (flat itC q) ∧ q.length ≤ c ∧ c ≤ maxLen ∧ Ply w' w.heap.size A0 c0 p A c q) ∨ (insP p x = none ∧ e = .returned (.tuple #[.slice none 0 0, .int .i64 16]))) ∧ Below w.heap.size w w'
theorem find_at {p : List Itm} {d : Dig} {b : ByteArray} (hf : findP p d = some b) : ∃ i, p[atD p d]? = some i ∧ i.2 = b ∧ atD p d < p.length := by
  unfold findP at hf
  cases hi : p[atD p d]? with
  | none => rw [hi] at hf; cases hf
  | some i =>
    rw [hi] at hf
    simp only at hf
    split at hf
    · exact ⟨i, rfl, by cases hf; rfl, (List.getElem?_eq_some_iff.1 hi).1⟩
    · cases hf
set_option maxRecDepth 100000 in
set_option maxHeartbeats 4000000 in
theorem pinsert_any (A : Option Addr) (n c B : Nat) (p : List Itm) (x : Itm) (w : World) (h0 : Sl w B 3 A n (flat itC p)) (hB : B ≤ w.heap.size) (hnc : n ≤ c) (hcm : c ≤ maxLen) (hn : n ≤ 900000) (ha : AscI p) :
    Calls Tryz.prog 131 #[.slice A n c, itV x] w (InpE A c p x w) := by
  have HL := Lib.hid (h0.len itC_len (by omega))
  have HAS := Lib.hid ha; have HCM := Lib.hid hcm; have HNC := Lib.hid hnc
  obtain ⟨⟨d1, d2⟩, s⟩ := x
  obtain ⟨W, hW⟩ : ∃ W, w.alloc (.cells #[.int .u64 d1, .int .u64 d2, .string s] 38) = W := ⟨_, rfl⟩
  have HB0 : Hid (Below w.heap.size w W) := by rw [← hW]; exact (Below.refl _ w).alloc (Nat.le_refl _) _
  have HK : Hid (Bk W w.heap.size 38 #[.int .u64 d1, .int .u64 d2, .string s]) := by rw [← hW]; exact Bk.new w _ _
  have zk : w.heap.size < W.heap.size := HK.out.lt
  have HC := Lib.hid (pfind_any A n c B p (d1, d2) W (h0.below HB0.out hB) (Nat.le_trans hB HB0.out.size) (by omega) ha)
  have H0 := Lib.hid h0
  clear h0 ha hcm
  unfold BsE at HC
  simp only [digV, itV] at HC ⊢
  obtain ⟨x0, x1, x2⟩ := HK.out.three
  obtain ⟨m, hm⟩ : ∃ m, atD p (d1, d2) = m := ⟨_, rfl⟩
  have HM := Lib.hid hm
  rw [hm] at HC
  have hmn : m ≤ n := by rw [← hm, ← HL.out]; exact atD_le _ _
  cases hf : findP p (d1, d2) with
  | none =>
    have HN : Hid (insP p ((d1, d2), s) = some (p.take m ++ [((d1, d2), s)] ++ p.drop m)) := by
      show _ = _
      unfold insP; simp only [hf, HM.out]
    have HQ : Hid ((p.take m ++ [((d1, d2), s)] ++ p.drop m).length = m + 1 + (n - m)) := by
      show _ = _
      rw [List.length_append, List.length_append, List.length_take, List.length_drop, HL.out, Nat.min_eq_left hmn]; rfl
    rw [hf] at HC
    simp only [Option.isSome_none] at HC
    obtain ⟨i0, hi, hz0, hz1, hz2⟩ := info_parts infoIt
    have tk := run_slice_to (P := Tryz.prog) 23 i0 Tryz.underlying23 hi A n c m (by omega)
    obtain ⟨Ak, hAr, hAk⟩ := run_slice_from (P := Tryz.prog) 23 i0 Tryz.underlying23 hi hz1 A n c m hmn hnc
    have HAk := Lib.hid hAk
    clear hf hm hi hz0 hz1 hz2 hAk
    go_enter Tryz.func131, Tryz.ntmps131
    go_wp2_with fail
    refine HC.out.mono ?_
    rintro e w2 ⟨rfl, hb⟩
    have HB2 : Hid (Below w.heap.size w w2) := HB0.out.trans (hb.mono HB0.out.size)
    have HK2 := Lib.hid (HK.out.below hb zk)
    have zw2 : w.heap.size < w2.heap.size := Nat.lt_of_lt_of_le zk hb.size
    have HS2 := Lib.hid (H0.out.below HB2.out hB)
    obtain ⟨k0, k1, k2⟩ := HK2.out.three
    have hB2 : B ≤ w2.heap.size := by omega
    clear hb HC x0 x1 x2 hW
    have HSP : Hid (∀ x ∈ [(4, SlI ((d1, d2), s)), (8, Sl3 A m c Ak (n - m) (c - m) ((d1, d2), s)), (9, RsP w2.heap.size (m + 1 + (n - m)) (p.take m ++ [((d1, d2), s)] ++ p.drop m))], ∀ v W W', x.2 v W → Below W.heap.size W W' → x.2 v W') := fun x hx v W W' h hb => by
      simp only [List.mem_cons, List.not_mem_nil, or_false] at hx
      rcases hx with rfl | rfl | rfl
      · exact SlI.keep h hb
      · exact Sl3.keep h hb
      · exact RsP.keep h hb
    go_wp2_with fail
    refine wp_region_stableGD 10 (17 :: 18 :: 19 :: 20 :: 21 :: 22 :: 23 :: 24 :: 25 :: 26 :: []) (by kernel_rfl) (by kernel_rfl) (by kernel_rfl) (fun W => Below w2.heap.size w2 W) (fun W W' => Below W.heap.size W W')
      (gPhi [(4, SlI ((d1, d2), s)), (8, Sl3 A m c Ak (n - m) (c - m) ((d1, d2), s)), (9, RsP w2.heap.size (m + 1 + (n - m)) (p.take m ++ [((d1, d2), s)] ++ p.drop m))] ((.slice A n c) :: (.int .i64 m) :: (.slice A m c) :: (.agg #[.int .u64 d1, .int .u64 d2, .string s]) :: (undef) :: (.slice A n c) :: (.int .i64 m) :: (.slice Ak (n - m) (c - m)) :: (undef) :: (undef) :: [])) (fun W W' h1 h2 => h1.trans (h2.mono h1.size)) (fun i v W W' h hb => gPhi_keep HSP.out i v W W' h hb) (Below.refl _ _).drew ?stepA ?tailA
    case stepA =>
      intro i o vs W hi ho hv hR hphi
      obtain ⟨v0, v1, v2, v3, v4, v5, v6, v7, v8, v9, rfl⟩ := ls10 hv
      simp only [List.zip, List.zipWith, putAll, Act.put, List.setIfInBounds_toArray, List.set]
      have hWz := hR.size
      have g0 := (hR.cell (p := ⟨w.heap.size, 0, none⟩) (by show w.heap.size < _; omega)).trans k0
      have g1 := (hR.cell (p := ⟨w.heap.size, 1, none⟩) (by show w.heap.size < _; omega)).trans k1
      have g2 := (hR.cell (p := ⟨w.heap.size, 2, none⟩) (by show w.heap.size < _; omega)).trans k2
      match i, hi, ho with
      | 0, _, rfl =>
        exact .inl ⟨rfl, gives_value (v := .slice A n c) (w' := W) (by go_simp) ⟨Below.refl _ _, fun u hu => by cases hu; rfl⟩⟩
      | 1, _, rfl =>
        exact .inl ⟨rfl, gives_value (v := .int .i64 m) (w' := W) (by go_simp) ⟨Below.refl _ _, fun u hu => by cases hu; rfl⟩⟩
      | 2, _, rfl =>
        have e0 : v0 = _ := hphi ⟨0, .data⟩ (by simp) rfl v0 rfl _ rfl
        have e1 : v1 = _ := hphi ⟨1, .data⟩ (by simp) rfl v1 rfl _ rfl
        subst e0 e1
        exact .inl ⟨rfl, gives_value (v := .slice A m c) (w' := W) (by go_simp) ⟨Below.refl _ _, fun u hu => by cases hu; rfl⟩⟩
      | 3, _, rfl =>
        exact .inl ⟨rfl, gives_value (v := .agg #[.int .u64 d1, .int .u64 d2, .string s]) (w' := W) (by go_simp) ⟨Below.refl _ _, fun u hu => by cases hu; rfl⟩⟩
      | 4, _, rfl =>
        have e3 : v3 = _ := hphi ⟨3, .data⟩ (by simp) rfl v3 rfl _ rfl
        subst e3
        exact .inl ⟨rfl, gives_value (v := .slice (some ⟨W.heap.size, 0, none⟩) 1 1) (w' := W.alloc (.cells #[.int .u64 d1, .int .u64 d2, .string s] 38)) (by go_simp) ⟨(Below.refl _ W).alloc (Nat.le_refl _) _, W.heap.size, rfl, Bk.new W _ _⟩⟩
      | 5, _, rfl =>
        exact .inl ⟨rfl, gives_value (v := .slice A n c) (w' := W) (by go_simp) ⟨Below.refl _ _, fun u hu => by cases hu; rfl⟩⟩
      | 6, _, rfl =>
        exact .inl ⟨rfl, gives_value (v := .int .i64 m) (w' := W) (by go_simp) ⟨Below.refl _ _, fun u hu => by cases hu; rfl⟩⟩
      | 7, _, rfl =>
        have e5 : v5 = _ := hphi ⟨5, .data⟩ (by simp) rfl v5 rfl _ rfl
        have e6 : v6 = _ := hphi ⟨6, .data⟩ (by simp) rfl v6 rfl _ rfl
        subst e5 e6
        exact .inl ⟨rfl, gives_value (v := .slice Ak (n - m) (c - m)) (w' := W) (by go_simp) ⟨Below.refl _ _, fun u hu => by cases hu; rfl⟩⟩
      | 8, _, rfl =>
        have e2 : v2 = _ := hphi ⟨2, .data⟩ (by simp) rfl v2 rfl _ rfl
        obtain ⟨b0, rfl, hb0⟩ : (SlI ((d1, d2), s)) v4 W := hphi ⟨4, .data⟩ (by simp) rfl v4 rfl
        have e7 : v7 = _ := hphi ⟨7, .data⟩ (by simp) rfl v7 rfl _ rfl
        subst e2 e7
        exact .inl ⟨rfl, gives_value (v := .slice (some ⟨W.heap.size, 0, none⟩) 3 3) (w' := W.alloc (.cells #[.slice A m c, .slice (some ⟨b0, 0, none⟩) 1 1, .slice Ak (n - m) (c - m)] 23)) (by go_simp) ⟨(Below.refl _ W).alloc (Nat.le_refl _) _, b0, W.heap.size, rfl, Bk.new W _ _, hb0.alloc _⟩⟩
      | 9, _, rfl =>
        obtain ⟨b0, b1, rfl, hb1, hb0⟩ : (Sl3 A m c Ak (n - m) (c - m) ((d1, d2), s)) v8 W := hphi ⟨8, .data⟩ (by simp) rfl v8 rfl
        refine .inl ⟨rfl, gives_call (f := 184) (args := #[.slice (some ⟨b1, 0, none⟩) 3 3]) (by go_simp) ((concat_any b1 W.heap.size _ A (some ⟨b0, 0, none⟩) Ak m 1 (n - m) c 1 (c - m) (p.take m) [((d1, d2), s)] (p.drop m) W hb1 (((HS2.out.it_take hmn).below hR hB2).more (Nat.le_trans hB2 hR.size)) (sl_item hb0) ((by rw [flat_drop itC_len]; exact HAk.out W B _ (HS2.out.below hR hB2) : Sl W B 3 Ak (n - m) (flat itC (p.drop m))).more (Nat.le_trans hB2 hR.size)) (Nat.le_refl _) (by omega) (by omega)).mono ?_)⟩
        rintro e W' ⟨A9, c9, rfl, ha9, hb9, hn9, hm9⟩
        exact ⟨_, rfl, hb9, ⟨A9, c9, rfl, ownsRow_low (ha9.own (by omega)) hR.size, hn9, hm9⟩⟩
      | i + 10, hi, _ => exact absurd hi (by omega)
    case tailA =>
      intro vs W hv hR hphi
      obtain ⟨v0, v1, v2, v3, v4, v5, v6, v7, v8, v9, rfl⟩ := ls10 hv
      simp only [List.zip, List.zipWith, putAll, Act.put, List.setIfInBounds_toArray, List.set, List.drop]
      have e0 : v0 = _ := hphi 0 v0 rfl _ rfl
      have e1 : v1 = _ := hphi 1 v1 rfl _ rfl
      have e2 : v2 = _ := hphi 2 v2 rfl _ rfl
      have e3 : v3 = _ := hphi 3 v3 rfl _ rfl
      have e4 : (SlI ((d1, d2), s)) v4 W := hphi 4 v4 rfl
      have e5 : v5 = _ := hphi 5 v5 rfl _ rfl
      have e6 : v6 = _ := hphi 6 v6 rfl _ rfl
      have e7 : v7 = _ := hphi 7 v7 rfl _ rfl
      have e8 : (Sl3 A m c Ak (n - m) (c - m) ((d1, d2), s)) v8 W := hphi 8 v8 rfl
      have e9 : (RsP w2.heap.size (m + 1 + (n - m)) (p.take m ++ [((d1, d2), s)] ++ p.drop m)) v9 W := hphi 9 v9 rfl
      subst e0 e1 e2 e3 e5 e6 e7
      clear hphi hv
      obtain ⟨A9, c9, rfl, hs9, hn9, hm9⟩ := e9
      have HR := Lib.hid hR
      clear hR
      go_wp2_with fail
      go_ret2
      exact ⟨.inl ⟨_, A9, c9, HN.out, by rw [HQ.out]; rfl, by rw [HQ.out]; exact Sl.of_own hs9, by rw [HQ.out]; exact hn9, hm9, .inr (by rw [HQ.out]; exact ownsRow_low hs9 (by omega))⟩, HB2.out.trans (HR.out.mono HB2.out.size)⟩
  | some b =>
    obtain ⟨i, hi, hib, hil⟩ := find_at hf
    rw [hm] at hi hil
    have hlt : m < n := by rw [← HL.out]; exact hil
    have HNN : Hid (insP p ((d1, d2), s) = if b = s then some p else none) := by
      show _ = _
      unfold insP; simp only [hf]
    rw [hf] at HC
    simp only [Option.isSome_some] at HC
    clear hf hm hil
    go_enter Tryz.func131, Tryz.ntmps131
    go_wp2_with fail
    refine HC.out.mono ?_
    rintro e w2 ⟨rfl, hb⟩
    have HB2 : Hid (Below w.heap.size w w2) := HB0.out.trans (hb.mono HB0.out.size)
    have HK2 := Lib.hid (HK.out.below hb zk)
    have zw2 : w.heap.size < w2.heap.size := Nat.lt_of_lt_of_le zk hb.size
    have HS2 := Lib.hid (H0.out.below HB2.out hB)
    obtain ⟨bb, off, i', rfl, hbB, hx, y0, y1, y2⟩ := HS2.out.it hlt
    rw [hi] at hx
    obtain rfl := Option.some.inj hx
    rw [hib] at y2
    obtain ⟨k0, k1, k2⟩ := HK2.out.three
    have hB2 : B ≤ w2.heap.size := by omega
    have hmn' : (m : Int) < (n : Int) := by omega
    clear hb HC x0 x1 x2 hW hi hx
    have t2 := str_dec b s
    by_cases hbs : b = s
    · have HN : Hid (insP p ((d1, d2), s) = some p) := by show _ = _; rw [HNN.out, if_pos hbs]
      have l1 : (b.toList != s.toList) = !(decide (b = s)) := by rw [← str_dec]; rfl
      rw [decide_eq_true hbs] at t2 l1
      clear hbs
      go_wp2_with fail
      go_quiet (fail)
      go_wp2_with fail
      go_ret2
      exact ⟨.inl ⟨p, some ⟨bb, off, none⟩, c, HN.out, by rw [HL.out]; rfl, by rw [HL.out]; exact HS2.out.more hB2, by rw [HL.out]; exact HNC.out, HCM.out, .inl ⟨rfl, rfl, rfl⟩⟩, below_drewN HB2.out _⟩
    · have HN : Hid (insP p ((d1, d2), s) = none) := by show _ = _; rw [HNN.out, if_neg hbs]
      have l1 : (b.toList != s.toList) = !(decide (b = s)) := by rw [← str_dec]; rfl
      rw [decide_eq_false hbs] at t2 l1
      clear hbs
      go_wp2_with fail
      go_quiet (fail)
      go_wp2_with fail
      go_ret2
      exact ⟨.inr ⟨HN.out, rfl⟩, below_drewN HB2.out _⟩
end Go.Proofs.YtmdhlkkekidknaaGreatDoor
