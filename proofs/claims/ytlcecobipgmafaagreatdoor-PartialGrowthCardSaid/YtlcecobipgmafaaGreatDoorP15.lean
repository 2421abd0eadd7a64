/-
  Lemmas: pool.Check on a valid pool. PartialComplete: the law. The arguments that come in (law09): digests, pools, changes. The arguments that come in (law14): lists of digests, scopes.
-/
import Derived.Deep.RegionHeld3
import Derived.Deep.AppendSrc
import Derived.RegionIn
import Derived.Test.YtlcecobipgmafaaGreatDoorP14
import Derived.Test.YtlcecobipgmafaaGreatDoorP7
import Derived.Test.YtlcecobipgmafaaGreatDoorP12
import Derived.Test.YtlcecobipgmafaaGreatDoorP1
import Derived.Test.YtlcecobipgmafaaGreatDoorP3
import Derived.Test.YtlcecobipgmafaaGreatDoorP4
import Derived.Test.YtlcecobipgmafaaGreatDoorP10
import Derived.Test.YtlcecobipgmafaaGreatDoorP5
import Derived.Test.YtlcecobipgmafaaGreatDoorP9

namespace Go.Proofs.YtlcecobipgmafaaGreatDoor
open Go.RowKit

set_option maxRecDepth 100000 in
set_option maxHeartbeats 4000000 in
theorem pitem_any (x : Itm) (w : World) (hx : ∃ o, OkO o ∧ x.2 = ofL (encO o)) (hd : x.1 = ofB (toL x.2)) :
    Calls Tryz.prog 34 #[itV x] w fun e w' => e = .returned (.int .i64 0) ∧ Below w.heap.size w w' := by
  obtain ⟨⟨d1, d2⟩, s⟩ := x
  obtain ⟨o, ho, hs⟩ := hx
  simp only at hs hd
  have hsz : s.size ≤ maxLen := by rw [hs, size_ofL]; have := ho.len; unfold maxLen; omega
  have HOF := Lib.hid (fun W => of_any s W hsz)
  unfold OfEnd at HOF
  rw [← hd] at HOF
  obtain ⟨W, hW⟩ : ∃ W, w.alloc (.cells #[.int .u64 d1, .int .u64 d2, .string s] 44) = W := ⟨_, rfl⟩
  have HB0 : Hid (Below w.heap.size w W) := by rw [← hW]; exact (Below.refl _ w).alloc (Nat.le_refl _) _
  have HK : Hid (Bk W w.heap.size 44 #[.int .u64 d1, .int .u64 d2, .string s]) := by rw [← hW]; exact Bk.new w _ _
  have zk : w.heap.size < W.heap.size := HK.out.lt
  have HD := Lib.hid (odecode_any o W ho)
  rw [← hs] at HD
  unfold OdE at HD
  simp only [digV, itV] at HOF ⊢
  obtain ⟨x0, x1, x2⟩ := HK.out.three
  have HW := Lib.hid hW
  rw [← hW] at x0 x1 x2
  clear hs hd hsz hW ho
  go_enter Tryz.func34, Tryz.ntmps34
  go_wp2_with fail
  rw [HW.out]
  refine HD.out.mono ?_
  rintro e w2 ⟨sl, rfl, _, hb, _⟩
  have HK2 := Lib.hid (HK.out.below hb zk)
  have HB2 : Hid (Below w.heap.size w w2) := HB0.out.trans (hb.mono HB0.out.size)
  clear hb HD x0 x1 x2 HW
  simp only [obV, obC]
  obtain ⟨W3, hW3⟩ : ∃ W3, w2.alloc (.cells #[.int .i64 o.kind, .string o.data, .slice sl.eA sl.en sl.ec, .int .u64 o.tree.1, .int .u64 o.tree.2, .slice sl.pA sl.pn sl.pc, .string o.auth, .int .i64 o.time, .string o.msg] 75) = W3 := ⟨_, rfl⟩
  have hb3 : Below w2.heap.size w2 W3 := by rw [← hW3]; exact (Below.refl _ w2).alloc (Nat.le_refl _) _
  have HB3 : Hid (Below w.heap.size w W3) := HB2.out.trans (hb3.mono HB2.out.size)
  have HK3 := Lib.hid (HK2.out.below hb3 HK2.out.lt)
  have zk3 : w.heap.size < W3.heap.size := HK3.out.lt
  obtain ⟨k0, k1, k2⟩ := HK3.out.three
  have hdd : (d1 != d1 || d2 != d2) = false := by simp
  have hde : (d1 == d1 && d2 == d2) = true := by simp
  clear hb3 HB2 HK2
  go_wp2_with fail
  clear hW3
  go_region_held3 (fun w' => w'.cell? ⟨w.heap.size, 0, none⟩ = some (.int .u64 d1) ∧ w'.cell? ⟨w.heap.size, 1, none⟩ = some (.int .u64 d2) ∧ w'.cell? ⟨w.heap.size, 2, none⟩ = some (.string s))
    (first | exact ⟨k0, k1, k2⟩ | exact ⟨m0.out, m1.out, m2.out⟩)
    (first
      | (go_at_call 57; refine (HOF.out _).mono ?_; rintro e w7 ⟨rfl, hb2⟩
         have m0 := Lib.hid ((hb2.cell (p := ⟨w.heap.size, 0, none⟩) (by show w.heap.size < _; simp; omega)).trans k0); have m1 := Lib.hid ((hb2.cell (p := ⟨w.heap.size, 1, none⟩) (by show w.heap.size < _; simp; omega)).trans k1); have m2 := Lib.hid ((hb2.cell (p := ⟨w.heap.size, 2, none⟩) (by show w.heap.size < _; simp; omega)).trans k2)
         have hR : Hid (Below W3.heap.size W3 w7) := (Below.refl _ W3).drew.trans hb2
         clear hb2))
  have HB8 : Hid (Below w.heap.size w w7) := HB3.out.trans (hR.out.mono HB3.out.size)
  clear m0 m1 m2 k0 k1 k2 hR HB3
  go_wp2_with fail
  go_ret
  exact ⟨rfl, HB8.out⟩
set_option maxRecDepth 100000 in
set_option maxHeartbeats 8000000 in
theorem pcheck_any (A : Option Addr) (n c B : Nat) (p : List Itm) (w : World) (h0 : Sl w B 3 A n (flat itC p)) (hB : B ≤ w.heap.size) (hn : n ≤ 1000000) (hp : PlOk p) :
    Calls Tryz.prog 16 #[.slice A n c] w fun e w' => e = .returned (.int .i64 0) ∧ Below w.heap.size w w' := by
  have HL := Lib.hid (h0.len itC_len (by omega))
  have H0 := Lib.hid h0; have HP := Lib.hid hp
  clear h0 hp
  go_enter Tryz.func16, Tryz.ntmps16
  go_wp2_with fail
  go_loopw [8] (fun i wr => ∃ k : Nat, k ≤ n ∧ i = .int .i64 (k : Int) ∧ Hid (Below w.heap.size w wr)) (fun i _ => n - (intOf i).toNat)
  case atStart => exact ⟨0, Nat.zero_le _, rfl, Below.refl _ _⟩
  case round =>
    obtain ⟨k, hk, rfl, hBel⟩ := hrel
    by_cases hlt : k < n
    · have hlz : (k : Int) < (n : Int) := by omega
      obtain ⟨b, off, x, rfl, hb, hx, y0, y1, y2⟩ := (H0.out.below hBel.out hB).it hlt
      have HX := Lib.hid hx
      have hmem := List.mem_of_getElem? hx
      have HE := Lib.hid (HP.out.enc x hmem); have HDG := Lib.hid (HP.out.dg x hmem)
      have HBE := Lib.hid hBel.out
      clear hx hmem hBel
      obtain ⟨⟨x1, x2⟩, xs⟩ := x
      simp only at y0 y1 y2
      obtain ⟨W6, hW6⟩ : ∃ W6, wr.alloc (.cells #[.int .u64 x1, .int .u64 x2, .string xs] 44) = W6 := ⟨_, rfl⟩
      have hb6 : Below wr.heap.size wr W6 := by rw [← hW6]; exact (Below.refl _ wr).alloc (Nat.le_refl _) _
      have HB6 : Hid (Below w.heap.size w W6) := HBE.out.trans (hb6.mono HBE.out.size)
      have HK6 : Hid (Bk W6 wr.heap.size 44 #[.int .u64 x1, .int .u64 x2, .string xs]) := by rw [← hW6]; exact Bk.new wr _ _
      have HC := Lib.hid (pitem_any ((x1, x2), xs) W6 HE.out HDG.out)
      simp only [itV] at HC
      have zk : wr.heap.size < W6.heap.size := HK6.out.lt
      have zr : w.heap.size ≤ wr.heap.size := HBE.out.size
      obtain ⟨x0', x1', x2'⟩ := HK6.out.three
      have HW6 := Lib.hid hW6
      rw [← hW6] at x0' x1' x2'
      clear hb6 hW6 HBE
      go_wp2_with fail
      rw [HW6.out]
      refine HC.out.mono ?_
      rintro e w7 ⟨rfl, hb7⟩
      have HB7 : Hid (Below w.heap.size w w7) := HB6.out.trans (hb7.mono HB6.out.size)
      have HK7 := Lib.hid (HK6.out.below hb7 zk)
      have zk7 : wr.heap.size < w7.heap.size := HK7.out.lt
      obtain ⟨k0, k1, k2⟩ := HK7.out.three
      clear hb7 HC HB6 HK6 HW6 x0' x1' x2' y0 y1 y2
      by_cases hk0 : k = 0
      · subst hk0
        go_wp2_with fail
        go_quiet (fail)
        go_wp2_with fail
        go_roundw
        case rel => exact ⟨0 + 1, hlt, by go_num, below_drewN HB7.out _⟩
        case measure => simp [intOf]; omega
      · obtain ⟨j, rfl⟩ : ∃ j, k = j + 1 := ⟨k - 1, by omega⟩
        obtain ⟨b3, off3, y, hA3, hb3, hy, z0, z1, z2⟩ := (H0.out.below HB7.out hB).it (k := j) (by omega)
        injection hA3 with hA3
        injection hA3 with hA3 hA4
        subst hA3; subst hA4
        have hltd : ltD y.1 (x1, x2) := by
          have h1 := HP.out.asc
          rw [List.pairwise_iff_getElem] at h1
          obtain ⟨l1, e1⟩ := List.getElem?_eq_some_iff.1 hy
          obtain ⟨l2, e2⟩ := List.getElem?_eq_some_iff.1 HX.out
          have h2 := h1 j (j + 1) l1 l2 (by omega)
          rw [e1, e2] at h2; exact h2
        have hcz : cmpD (x1, x2) y.1 = 1 := by
          unfold cmpD
          rw [if_neg (fun e => ltD_irrefl _ (by rw [e] at hltd; exact hltd)), if_neg (fun h => ltD_irrefl _ (ltD_trans h hltd))]
        clear hy hltd
        obtain ⟨⟨y1', y2'⟩, ys⟩ := y
        simp only at z0 z1 z2 hcz
        have hj1 : IntKind.i64.wrap (j : Int) = (j : Int) := by rw [IntKind.wrap_i64]; omega
        have hjn : j < n := by omega
        have hj2 : (j : Int) + 1 < (n : Int) := by omega
        have hj3 : (0 : Int) ≤ (j : Int) + 1 := by omega
        have hj4 : ((j : Int) + 1).toNat = j + 1 := by omega
        have hj5 : (0 : Int) < (j : Int) + 1 := by omega
        have HCM := Lib.hid (fun W => dcmp_any (x1, x2) (y1', y2') W)
        unfold CmE at HCM
        rw [hcz] at HCM
        simp only [digV] at HCM
        have zb : b < w7.heap.size := by omega
        clear hcz
        go_wp2_with fail
        go_region_held3 (fun w' => w'.cell? ⟨b, off + j * 3, none⟩ = some (.int .u64 y1') ∧ w'.cell? ⟨b, off + j * 3 + 1, none⟩ = some (.int .u64 y2') ∧ w'.cell? ⟨wr.heap.size, 0, none⟩ = some (.int .u64 x1) ∧ w'.cell? ⟨wr.heap.size, 1, none⟩ = some (.int .u64 x2))
          (first | exact ⟨z0, z1, k0, k1⟩ | exact ⟨n0.out, n1.out, n2.out, n3.out⟩)
          (first
            | (go_at_call 35; refine (HCM.out _).mono ?_; rintro e w8 ⟨rfl, hb8⟩
               have n0 := Lib.hid ((hb8.cell (p := ⟨b, off + j * 3, none⟩) (by show b < _; simp; omega)).trans z0); have n1 := Lib.hid ((hb8.cell (p := ⟨b, off + j * 3 + 1, none⟩) (by show b < _; simp; omega)).trans z1); have n2 := Lib.hid ((hb8.cell (p := ⟨wr.heap.size, 0, none⟩) (by show wr.heap.size < _; simp; omega)).trans k0); have n3 := Lib.hid ((hb8.cell (p := ⟨wr.heap.size, 1, none⟩) (by show wr.heap.size < _; simp; omega)).trans k1)
               have hR8 : Hid (Below w7.heap.size w7 w8) := (Below.refl _ w7).drew.trans hb8
               clear hb8))
        have HB9 : Hid (Below w.heap.size w w8) := HB7.out.trans (hR8.out.mono HB7.out.size)
        clear n0 n1 n2 n3 z0 z1 z2 k0 k1 k2 hR8
        go_wp2_with fail
        go_roundw
        case rel => exact ⟨j + 1 + 1, hlt, by go_num, HB9.out⟩
        case measure => simp [intOf]; omega
    · have hlz : ¬ (k : Int) < (n : Int) := by omega
      have HBE := Lib.hid hBel.out
      clear hBel
      go_wp2_with fail
      go_ret
      exact ⟨rfl, HBE.out⟩
end Go.Proofs.YtlcecobipgmafaaGreatDoor

namespace Go.Proofs.YtlcecobipgmafaaGreatDoor
open Go.RowKit Go.Maps

theorem rest_mem {q : List Itm} {k : Nat} {x : Itm} (ha : AscI q) (hx : q[k]? = some x) (i : Itm) : i ∈ q.take k ++ q.drop (k + 1) ↔ i ∈ q ∧ i.1 ≠ x.1 := by
  obtain ⟨hk, he⟩ := List.getElem?_eq_some_iff.1 hx
  have e : q = q.take k ++ x :: q.drop (k + 1) := by rw [← he, List.getElem_cons_drop, List.take_append_drop]
  have ha' : (q.take k ++ x :: q.drop (k + 1)).Pairwise (fun a b : Itm => ltD a.1 b.1) := e ▸ ha
  obtain ⟨_, h2, h3⟩ := List.pairwise_append.1 ha'
  have h4 := (List.pairwise_cons.1 h2).1
  have hm : i ∈ q ↔ i ∈ q.take k ∨ i = x ∨ i ∈ q.drop (k + 1) := by
    have h5 : i ∈ q ↔ i ∈ q.take k ++ x :: q.drop (k + 1) := by rw [← e]
    rw [h5, List.mem_append, List.mem_cons]
  rw [List.mem_append, hm]
  constructor
  · rintro (h | h)
    · exact ⟨.inl h, fun hh => by have := h3 i h x (List.mem_cons_self); rw [hh] at this; exact ltD_irrefl _ this⟩
    · exact ⟨.inr (.inr h), fun hh => by have := h4 i h; rw [hh] at this; exact ltD_irrefl _ this⟩
  · rintro ⟨h | rfl | h, hn⟩
    · exact .inl h
    · exact absurd rfl hn
    · exact .inr h
theorem rest_sub (q : List Itm) (k : Nat) : (q.take k ++ q.drop (k + 1)).Sublist q := by
  have h : (q.take k ++ q.drop (k + 1)).Sublist (q.take k ++ q.drop k) := List.Sublist.append_left (by rw [← List.drop_drop]; exact List.drop_sublist _ _) _
  rwa [List.take_append_drop] at h
theorem edge_wf {p : List Itm} {hs : List Dig} {dep : Int} {pre : Bytes} {l edge : List Dig} (hp : PlOk p) (hh : ∀ h ∈ hs, WfD h) (N : NdOk p hs dep pre l edge) : ∀ d ∈ edge, WfD d := fun d hd => nc_wf hp hh ((N.me d).1 hd).1
theorem oneIt (l : List Itm) : ∀ u ∈ flat itC l, u.oneCell' = true := itC_one l
set_option maxRecDepth 100000 in
set_option maxHeartbeats 32000000 in
theorem lawPc_any (p : List Itm) (pA : Option Addr) (pn pc : Nat) (hs : List Dig) (hA : Option Addr) (hn hc : Nat) (dep : Int) (pre : ByteArray) (w : World)
    (h0 : Sl w w.heap.size 3 pA pn (flat itC p)) (h1 : Sl w w.heap.size 2 hA hn (flat dgC hs)) (hpn : pn ≤ maxLen) (hsz : ∀ i ∈ p, i.2.size ≤ maxLen) (hh : ∀ d ∈ hs, WfD d) :
    Calls Tryz.prog 4 #[.slice pA pn pc, .slice hA hn hc, scV dep pre] w (LawE w) := by
  have HPL := Lib.hid (h0.len itC_len (by unfold maxLen at hpn; omega))
  have HH := Lib.hid hh
  obtain ⟨i0, hi, hz0, hz1, hz2⟩ := info_parts infoIt
  have Hi := Lib.hid hi; have Hz0 := Lib.hid hz0; have Hz1 := Lib.hid hz1; have Hz2 := Lib.hid hz2
  obtain ⟨W0, hW0⟩ : ∃ W, w.alloc (.cells #[.int .i64 dep, .string pre] 26) = W := ⟨_, rfl⟩
  have hb0 : Below w.heap.size w W0 := by rw [← hW0]; exact (Below.refl _ w).alloc (Nat.le_refl _) _
  have e0 : W0.heap.size = w.heap.size + 1 := by rw [← hW0]; simp
  obtain ⟨W1, hW1⟩ : ∃ W, W0.alloc (.cells #[.slice hA hn hc] 24) = W := ⟨_, rfl⟩
  have hb1 : Below W0.heap.size W0 W1 := by rw [← hW1]; exact (Below.refl _ W0).alloc (Nat.le_refl _) _
  have HB1 : Hid (Below w.heap.size w W1) := hb0.trans (hb1.mono hb0.size)
  have HK1 : Hid (Bk W1 w.heap.size 26 #[.int .i64 dep, .string pre]) := by rw [← hW1, ← hW0]; exact (Bk.new w _ _).alloc _
  have hL1 : Bk W1 (w.heap.size + 1) 24 #[.slice hA hn hc] := by rw [← hW1, ← e0]; exact Bk.new W0 _ _
  have HP1 := Lib.hid (sl_on4 h0 HB1.out); have HH1 := Lib.hid (sl_on4 h1 HB1.out)
  have HS := Lib.hid (small_any pA pn pc p (w.heap.size + 1) hA hn hc W1 HP1.out hL1 hpn hsz)
  unfold SmE at HS
  have HW0 := Lib.hid hW0; have HW1 := Lib.hid hW1
  unfold scV LawE
  clear hh h0 h1 hW0 hW1 hb0 hb1 e0 hL1 hi hz0 hz1 hz2 hsz
  go_enter Tryz.func4, Tryz.ntmps4
  go_wp2_with fail
  rw [HW0.out, HW1.out]
  refine HS.out.mono ?_
  rintro e w2 ⟨r, rfl, hr, hb2⟩
  have HR := Lib.hid hr
  have HB2 : Hid (Below w.heap.size w w2) := HB1.out.trans (hb2.mono HB1.out.size)
  have HK2 := Lib.hid (HK1.out.below hb2 HK1.out.lt)
  have HP2 := Lib.hid (sl_on4 HP1.out hb2); have HH2 := Lib.hid (sl_on4 HH1.out hb2)
  clear hr hb2 HS HB1 HK1 HP1 HH1 HW0 HW1
  cases r with
  | false =>
    have HAW := Lib.hid (awake_any w2)
    unfold LawE at HAW
    go_wp2_with fail
    refine HAW.out.mono ?_
    rintro e w3 ⟨rfl, hb3⟩
    have HB3 : Hid (Below w.heap.size w w3) := HB2.out.trans (hb3.mono HB2.out.size)
    clear hb3 HAW
    go_wp2_with fail
    go_ret
    exact ⟨rfl, HB3.out⟩
  | true =>
    obtain ⟨hn8, hp40, hpo⟩ := HR.out rfl
    have HPO := Lib.hid hpo
    clear hpo HR
    have HC := Lib.hid (clone_any p pA pn pc hs hA hn hc dep pre w2.heap.size w2 HP2.out HH2.out (Nat.le_refl _) HPO.out hp40 HH.out hn8)
    unfold scV at HC
    obtain ⟨x0, x1, _, _⟩ := HK2.out.two
    go_wp2_with fail
    refine HC.out.mono ?_
    rintro e w3 ⟨l, edge, z, A, c, A2, c2, rfl, hR, ⟨hS1, hS2⟩, hwf, ⟨hlc, hcm, hec, hcm2⟩, hll, hel, hb3⟩
    have HR := Lib.hid hR; have HS1 := Lib.hid hS1; have HS2 := Lib.hid hS2
    have HB3 : Hid (Below w.heap.size w w3) := HB2.out.trans (hb3.mono HB2.out.size)
    have HK3 := Lib.hid (HK2.out.below hb3 HK2.out.lt)
    have HH3 := Lib.hid (sl_on4 HH2.out hb3)
    clear hR hS1 hS2 hwf hb3 HC HB2 HK2 HP2 HH2 x0 x1
    obtain ⟨x0, x1, _, _⟩ := HK3.out.two
    by_cases hz : z = 0
    case neg =>
      have hzz : (z != 0) = true := by rw [bne_iff_ne]; exact hz
      obtain ⟨e1, e2⟩ := HR.out.none hz
      have f1 : (keepP p l).length = 0 := by rw [e1, keepP_nil]; rfl
      have f2 : edge.length = 0 := by rw [e2]; rfl
      have HAW := Lib.hid (awake_any w3)
      unfold LawE at HAW
      rw [f1, f2]
      clear hz e1 e2 HS1 HS2
      go_wp2_with fail
      refine HAW.out.mono ?_
      rintro e w4 ⟨rfl, hb4⟩
      have HB4 : Hid (Below w.heap.size w w4) := HB3.out.trans (hb4.mono HB3.out.size)
      clear hb4 HAW
      go_wp2_with fail
      go_ret
      exact ⟨rfl, HB4.out⟩
    case pos =>
      subst hz
      have HN := Lib.hid (HR.out.get (by decide) (by decide) (by decide))
      have HQO := Lib.hid (HPO.out.keep l)
      have HEW := Lib.hid (edge_wf HPO.out HH.out HN.out)
      have hq40 : (keepP p l).length ≤ 40 := Nat.le_trans (List.length_filter_le _ _) (by rw [HPL.out]; exact hp40)
      obtain ⟨q, hq⟩ : ∃ q, keepP p l = q := ⟨_, rfl⟩
      have HQ := Lib.hid hq
      rw [hq] at HS1 HQO hq40 hlc ⊢
      clear hq
      obtain ⟨m, hm⟩ : ∃ m, q.length = m := ⟨_, rfl⟩
      have HM := Lib.hid hm
      rw [hm] at HS1 hq40 hlc ⊢
      clear hm
      obtain ⟨en, hen⟩ : ∃ n, edge.length = n := ⟨_, rfl⟩
      rw [hen] at HS2 hel hec ⊢
      clear hen
      have HMG : Hid (∀ W, Below w3.heap.size w3 W → Calls Tryz.prog 15 #[.slice A m c, .slice hA hn hc, .agg #[.int .i64 dep, .string pre], .slice A2 en c2] W (MgE q hs dep pre edge W)) := fun W hW => by
        have := missing_any q A m c hs hA hn hc dep pre edge A2 en c2 W.heap.size W (sl_on4 HS1.out hW) (sl_on4 HH3.out hW) (sl_on4 HS2.out hW) (Nat.le_refl _) HQO.out hq40 HH.out hn8 HEW.out hel
        unfold scV at this; exact this
      go_wp2_with fail
      refine (HMG.out w3 (Below.refl _ _)).mono ?_
      rintro e w4 ⟨lm, f, A4, c4, rfl, hM, _, _, _, _, hb4⟩
      rw [← HQ.out] at hM
      obtain ⟨rfl, rfl⟩ := HN.out.whole HPO.out hM
      have HB4 : Hid (Below w.heap.size w w4) := HB3.out.trans (hb4.mono HB3.out.size)
      have HB34 := Lib.hid hb4
      have HCK := Lib.hid (pcheck_any A m c w4.heap.size q w4 (sl_on4 HS1.out hb4) (Nat.le_refl _) (by omega) HQO.out)
      clear hM hb4 x0 x1 HMG
      simp only [List.length_nil]
      go_wp2_with fail
      refine HCK.out.mono ?_
      rintro e w5 ⟨rfl, hb5⟩
      have HB5 : Hid (Below w.heap.size w w5) := HB4.out.trans (hb5.mono HB4.out.size)
      have HB35 : Hid (Below w3.heap.size w3 w5) := HB34.out.trans (hb5.mono HB34.out.size)
      clear hb5 HCK HB4 HB34
      go_wp2_with fail
      go_loopw [66] (fun i wr => ∃ k : Nat, k ≤ m ∧ i = .int .i64 k ∧ Hid (Below w.heap.size w wr) ∧ Hid (Below w3.heap.size w3 wr)) (fun i _ => m - (intOf i).toNat)
      case atStart => exact ⟨0, Nat.zero_le _, rfl, HB5.out, HB35.out⟩
      case round =>
        obtain ⟨k, hk, rfl, hBw, hB3w⟩ := hrel
        have HBw := Lib.hid hBw.out; have HB3w := Lib.hid hB3w.out
        clear hBw hB3w HB5 HB35
        by_cases hlt : k < m
        · obtain ⟨bb, off, x, rfl, hbB, hx, y0, y1, y2⟩ := (sl_on4 HS1.out HB3w.out).it hlt
          have hlz : (k : Int) < (m : Int) := by omega
          have HX := Lib.hid hx
          clear hx
          obtain ⟨⟨d1, d2⟩, xs⟩ := x
          simp only at y0 y1 y2
          obtain ⟨wx, hwx⟩ : ∃ W, wr.alloc (.cells #[.int .u64 d1, .int .u64 d2, .string xs] 44) = W := ⟨_, rfl⟩
          have hbx : Below wr.heap.size wr wx := by rw [← hwx]; exact (Below.refl _ wr).alloc (Nat.le_refl _) _
          have HKX : Hid (Bk wx wr.heap.size 44 #[.int .u64 d1, .int .u64 d2, .string xs]) := by rw [← hwx]; exact Bk.new wr _ _
          have HBx : Hid (Below w.heap.size w wx) := HBw.out.trans (hbx.mono HBw.out.size)
          have HB3x : Hid (Below w3.heap.size w3 wx) := HB3w.out.trans (hbx.mono HB3w.out.size)
          have HSx := Lib.hid (sl_on4 HS1.out HB3x.out)
          have HWX := Lib.hid hwx
          clear hwx hbx
          obtain ⟨Ak, hAr, hAk⟩ := run_slice_from (P := Tryz.prog) 23 i0 Tryz.underlying23 Hi.out Hz1.out (some ⟨bb, off, none⟩) m c (k + 1) (by omega) hlc
          have HAk := Lib.hid hAk
          have tk := run_slice_to (P := Tryz.prog) 23 i0 Tryz.underlying23 Hi.out (some ⟨bb, off, none⟩) m c k (by omega)
          have ek : (((k + 1 : Nat) : Int)) = (k : Int) + 1 := by omega
          have hAr2 := hAr
          rw [ek] at hAr2
          have hwr : IntKind.i64.wrap ((k : Int) + 1) = (k : Int) + 1 := wrap_sm (by omega) (by omega)
          clear hAk ek
          go_wp2_with fail
          rw [HWX.out]
          have HTK := Lib.hid (HSx.out.it_take (k := k) (by omega))
          have HSK : Hid (∀ W, Below wx.heap.size wx W → Sl W wx.heap.size 3 Ak (m - (k + 1)) (flat itC (q.drop (k + 1)))) := fun W hW => by rw [flat_drop itC_len]; exact HAk.out W wx.heap.size _ (HSx.out.below hW (Nat.le_refl _))
          go_region_law
            (first
              | (refine step_append_apd (by rfl) (.tmp 71) (.tmp 74) 23 (by rfl) wx.heap.size 44 i0 _ 3 32 Tryz.underlying23 Hi.out Hz0.out Hz1.out Hz2.out rfl (by decide) _ 0 0 [] (by rfl) (.inr ⟨rfl, rfl, rfl⟩) wx.heap.size (some ⟨bb, off, none⟩) k c (flat itC (q.take k)) (by rfl) (HTK.out.below (((Below.refl _ wx).alloc (Nat.le_refl _) _).drew) (Nat.le_refl _)) (oneIt _) (by unfold maxLen; omega) (by omega) (by simp <;> omega) ?_
                 intro A5 c5 w6 a5 hb5 hn5 hm5
                 have Q5 : Hid (Apd w6 wx.heap.size 44 3 A5 k c5 (flat itC (q.take k))) := by show Apd _ _ _ _ _ _ _ _; simpa using a5
                 have QB5 : Hid (Below wx.heap.size wx w6) := Below.trans (((Below.refl _ wx).alloc (Nat.le_refl _) _).drew) hb5
                 clear a5 hb5 hn5 hm5)
              | (refine step_append_apd (by rfl) (.tmp 75) (.tmp 79) 23 (by rfl) wx.heap.size 44 i0 _ 3 32 Tryz.underlying23 Hi.out Hz0.out Hz1.out Hz2.out rfl (by decide) A5 k c5 (flat itC (q.take k)) (by rfl) Q5.out wx.heap.size Ak (m - (k + 1)) (c - (k + 1)) (flat itC (q.drop (k + 1))) (by rfl) (HSK.out _ QB5.out) (oneIt _) (by unfold maxLen; omega) (by omega) QB5.out.size ?_
                 intro A8 c8 w8 a8 hb8 hn8 hm8
                 have Q8 := Lib.hid a8
                 have QB8 : Hid (Below wx.heap.size wx w8) := QB5.out.trans hb8
                 clear a8 hb8 hn8 hm8)
              | (refine step_append_apd (by rfl) (.tmp 75) (.tmp 79) 23 (by rfl) wx.heap.size 44 i0 _ 3 32 Tryz.underlying23 Hi.out Hz0.out Hz1.out Hz2.out rfl (by decide) A5 (0 + k) c5 (flat itC (q.take k)) (by rfl) (by rw [Nat.zero_add]; exact Q5.out) wx.heap.size Ak (m - (k + 1)) (c - (k + 1)) (flat itC (q.drop (k + 1))) (by rfl) (HSK.out _ QB5.out) (oneIt _) (by unfold maxLen; omega) (by omega) QB5.out.size ?_
                 intro A8 c8 w8 a8 hb8 hn8 hm8
                 have Q8 := Lib.hid a8
                 have QB8 : Hid (Below wx.heap.size wx w8) := QB5.out.trans hb8
                 clear a8 hb8 hn8 hm8))
          have HRM := Lib.hid (fun i => rest_mem HQO.out.asc HX.out i)
          have HRO := Lib.hid (HQO.out.sub (rest_sub q k))
          obtain ⟨rs, hrs⟩ : ∃ rs, q.take k ++ q.drop (k + 1) = rs := ⟨_, rfl⟩
          have S8 : Hid (Sl w8 w8.heap.size 3 A8 (k + (m - (k + 1))) (flat itC rs)) := by
            have h := Q8.out.sl
            rw [← flat_append, hrs] at h
            have h2 : Sl w8 w8.heap.size 3 A8 (k + (m - (k + 1))) (flat itC rs) := by simpa using h
            exact h2
          rw [hrs] at HRM HRO
          have HXQ : Hid (((d1, d2), xs) ∈ q) := List.mem_of_getElem? HX.out
          have HB8 : Hid (Below w.heap.size w w8) := HBx.out.trans (QB8.out.mono HBx.out.size)
          have HB38 : Hid (Below w3.heap.size w3 w8) := HB3x.out.trans (QB8.out.mono HB3x.out.size)
          have HKX8 := Lib.hid (HKX.out.below QB8.out HKX.out.lt)
          have HK8 := Lib.hid (HK3.out.below HB38.out HK3.out.lt)
          have HMG : Hid (Calls Tryz.prog 15 #[.slice A8 (k + (m - (k + 1))) c8, .slice hA hn hc, .agg #[.int .i64 dep, .string pre], .slice A2 en c2] w8 (MgE rs hs dep pre edge w8)) := by
            have := missing_any rs A8 (k + (m - (k + 1))) c8 hs hA hn hc dep pre edge A2 en c2 w8.heap.size w8 S8.out (sl_on4 HH3.out HB38.out) (sl_on4 HS2.out HB38.out) (Nat.le_refl _) HRO.out (by omega) HH.out hn8 HEW.out hel
            unfold scV at this; exact this
          clear hrs Q8 Q5 QB5 QB8 HTK HSK hAr hAr2 tk hwr HX y0 y1 y2 HBx HB3x HSx HKX HWX
          obtain ⟨x0, x1, _, _⟩ := HK8.out.two
          try rw [Nat.zero_add]
          go_wp2_with fail
          refine HMG.out.mono ?_
          rintro e w9 ⟨lm2, f2, A9, c9, rfl, hM, hS9, _, _, hl9, hb9⟩
          obtain ⟨rfl, hin⟩ := HN.out.less HPO.out HRO.out (x := ((d1, d2), xs)) (by rw [HQ.out]; exact HXQ.out) (fun i => by rw [HQ.out]; exact HRM.out i) hM
          have HI := Lib.hid (in8_any A9 lm2.length c9 w9.heap.size lm2 (d1, d2) w9 hS9 (Nat.le_refl _) hl9)
          rw [decide_eq_true hin] at HI
          simp only [digV] at HI
          have HB9 : Hid (Below w.heap.size w w9) := HB8.out.trans (hb9.mono HB8.out.size)
          have HB39 : Hid (Below w3.heap.size w3 w9) := HB38.out.trans (hb9.mono HB38.out.size)
          have HKX9 := Lib.hid (HKX8.out.below hb9 HKX8.out.lt)
          clear hM hS9 hl9 hb9 hin HMG x0 x1 HB8 HB38 HKX8 HK8 S8 HRM HRO
          obtain ⟨r0, r1, r2⟩ := HKX9.out.three
          go_wp2_with fail
          refine HI.out.mono ?_
          rintro e w10 ⟨rfl, hb10⟩
          have HB10 : Hid (Below w.heap.size w w10) := HB9.out.trans (hb10.mono HB9.out.size)
          have HB310 : Hid (Below w3.heap.size w3 w10) := HB39.out.trans (hb10.mono HB39.out.size)
          clear hb10 HI HB9 HB39 HKX9 r0 r1 r2
          go_wp2_with fail
          go_roundw
          case rel => exact ⟨k + 1, hlt, by go_num, HB10.out, HB310.out⟩
          case measure => simp [intOf]; omega
        · have hlz : ¬ (k : Int) < (m : Int) := by omega
          obtain ⟨wo, hwo⟩ : ∃ wo, wo = wr := ⟨_, rfl⟩
          subst hwo
          have HAW := Lib.hid (awake_any wo)
          unfold LawE at HAW
          go_wp2_with fail
          refine HAW.out.mono ?_
          rintro e w9 ⟨rfl, hb9⟩
          have HB9 : Hid (Below w.heap.size w w9) := HBw.out.trans (hb9.mono HBw.out.size)
          clear hb9 HAW
          go_wp2_with fail
          go_ret
          exact ⟨rfl, HB9.out⟩
end Go.Proofs.YtlcecobipgmafaaGreatDoor

namespace Go.Proofs.YtlcecobipgmafaaGreatDoor
open Go.ChangeShapes Go.WideShapes Go.ChangeAt Go.RowKit Go.Joins Go.Deep

theorem cellsU64 : Tryz.prog.cellsOf 40 = 1 := by kernel_rfl
theorem cellsDg : Tryz.prog.cellsOf 42 = 2 := by kernel_rfl
theorem cellsIt : Tryz.prog.cellsOf 44 = 3 := by kernel_rfl
theorem okWide_array {P : Program} {w : World} {r : Reach} {base n : Nat} {t e : TypeId} {v : Value} (ht : P.underlying t = some (.array n e)) (h : Value.okWide P w r base t v) : ∃ cs, v = .agg cs ∧ cs.size = P.cellsOf t := by
  simp only [Value.okWide, ht] at h
  obtain ⟨cs, h1, h2, _⟩ := h
  exact ⟨cs, h1, h2⟩
section
variable {H : Type} {enc : TypeId × Value → H} {P : Program} {w : World} {base : Nat} {spare : Nat → Bool} {held : Bool} {fuel : Nat} {cs : List Value} {x : DataW H × List MemPlace}
theorem trod_dgP {t s : TypeId} (ht : P.underlying t = some (.array 2 s)) (hs : P.underlying s = some (.int .u64))
    (hC : P.cellsOf t = 2) (hcs : P.cellsOf s = 1) (h : DataW.trod enc P w base spare held fuel t cs = some x) : ∃ d : Dig, cs = dgC d ∧ WfD d := by
  obtain ⟨xs, m, _, _, hlen, hxl, hf⟩ := DataW.trod_array ht h
  rw [hC] at hlen
  obtain ⟨c0, c1, rfl⟩ := len2 hlen
  obtain ⟨y0, y1, rfl⟩ := len2 hxl
  have h0 := hf 0 (by omega)
  have h1 := hf 1 (by omega)
  rw [hcs] at h0 h1
  simp at h0 h1
  obtain ⟨a, ha, _, hz⟩ := DataW.trod_int hs h0
  obtain ⟨b, hb, _, hz2⟩ := DataW.trod_int hs h1
  simp at ha hb
  obtain ⟨w1, w2⟩ := bounds_u64 hz
  obtain ⟨w3, w4⟩ := bounds_u64 hz2
  exact ⟨(a, b), by rw [ha, hb]; rfl, ⟨w1, by omega, w3, by omega⟩⟩
theorem trod_itP {t e s u : TypeId} {f0 f1 : Field} (ht : P.underlying t = some (.struct #[f0, f1])) (o0 : f0.offset = 0) (o1 : f1.offset = 2) (t0 : f0.type = e) (t1 : f1.type = s)
    (he : P.underlying e = some (.array 2 u)) (hu : P.underlying u = some (.int .u64)) (hs : P.underlying s = some .string)
    (hC : P.cellsOf t = 3) (hce : P.cellsOf e = 2) (hcu : P.cellsOf u = 1) (hcs : P.cellsOf s = 1) (h : DataW.trod enc P w base spare held fuel t cs = some x) : ∃ i : Itm, cs = itC i ∧ WfD i.1 ∧ i.2.size ≤ maxLen := by
  obtain ⟨xs, m, _, _, hlen, hxl, hf⟩ := DataW.trod_struct ht h
  rw [hC] at hlen
  obtain ⟨c0, c1, c2, rfl⟩ := len3 hlen
  obtain ⟨y0, y1, rfl⟩ := len2 hxl
  have h0 := hf 0 f0 rfl
  have h1 := hf 1 f1 rfl
  rw [o0, t0, hce] at h0
  rw [o1, t1, hcs] at h1
  simp at h0 h1
  obtain ⟨d, hd, hw⟩ := trod_dgP he hu hce hcu h0
  obtain ⟨b, hb, _, hz⟩ := DataW.trod_string hs h1
  simp [dgC] at hd hb
  exact ⟨(d, b), by rw [hd.1, hd.2, hb]; rfl, hw, hz⟩
end
section
variable {H : Type} {enc : TypeId × Value → H} {W : World} {base : Nat} {v : Value} {d : DataW H} {p : List MemPlace} {r : Reach} {b0 : Nat} {sp : Nat → Bool} {held : Bool}
set_option maxRecDepth 100000 in
theorem open_pool (hv : Value.okWide Tryz.prog W r b0 23 v) (h : DataW.Trod enc Tryz.prog W base sp held 23 v d p) : ∃ A n c is, v = .slice A n c ∧ Sl W W.heap.size 3 A n (flat itC is) ∧ n ≤ c ∧ c ≤ maxLen ∧ ∀ i ∈ is, WfD i.1 ∧ i.2.size ≤ maxLen := by
  obtain ⟨A, n, c, rfl⟩ := okWide_slice Tryz.underlying23 hv
  obtain ⟨fuel, hf⟩ := h
  obtain ⟨A', n', c', us, he, h1, h2, h3, h4⟩ := trod_slP (encA := itC) (Q := fun i => WfD i.1 ∧ i.2.size ≤ maxLen) Tryz.underlying23 cellsIt (by omega) itC_len (fun _ _ _ hh => trod_itP Tryz.underlying44 rfl rfl rfl rfl Tryz.underlying42 Tryz.underlying40 Tryz.underlying9 cellsIt cellsDg cellsU64 cellsStr hh) hf
  refine ⟨A', n', c', us, ?_, h1, h2, h3, h4⟩
  have : [Value.slice A n c] = [Value.slice A' n' c'] := he
  simpa using this
end
end Go.Proofs.YtlcecobipgmafaaGreatDoor

namespace Go.Proofs.YtlcecobipgmafaaGreatDoor
open Go.ChangeShapes Go.WideShapes Go.ChangeAt Go.RowKit Go.Joins Go.Deep

theorem cellsSc : Tryz.prog.cellsOf 26 = 2 := by kernel_rfl
theorem cellsIn : Tryz.prog.cellsOf 3 = 1 := by kernel_rfl
section
variable {H : Type} {enc : TypeId × Value → H} {P : Program} {w : World} {base : Nat} {spare : Nat → Bool} {held : Bool} {fuel : Nat} {cs : List Value} {x : DataW H × List MemPlace}
theorem trod_scP {t i s : TypeId} {f0 f1 : Field} (ht : P.underlying t = some (.struct #[f0, f1])) (o0 : f0.offset = 0) (o1 : f1.offset = 1) (t0 : f0.type = i) (t1 : f1.type = s)
    (hi : P.underlying i = some (.int .i64)) (hs : P.underlying s = some .string)
    (hC : P.cellsOf t = 2) (hci : P.cellsOf i = 1) (hcs : P.cellsOf s = 1) (h : DataW.trod enc P w base spare held fuel t cs = some x) : ∃ (z : Int) (b : ByteArray), cs = [.int .i64 z, .string b] ∧ b.size ≤ maxLen := by
  obtain ⟨xs, m, _, _, hlen, hxl, hf⟩ := DataW.trod_struct ht h
  rw [hC] at hlen
  obtain ⟨c0, c1, rfl⟩ := len2 hlen
  obtain ⟨y0, y1, rfl⟩ := len2 hxl
  have h0 := hf 0 f0 rfl
  have h1 := hf 1 f1 rfl
  rw [o0, t0, hci] at h0
  rw [o1, t1, hcs] at h1
  simp at h0 h1
  obtain ⟨a, ha, _⟩ := DataW.trod_int hi h0
  obtain ⟨b, hb, _, hz⟩ := DataW.trod_string hs h1
  simp at ha hb
  exact ⟨a, b, by rw [ha, hb], hz⟩
end
theorem okWide_str2 {P : Program} {w : World} {r : Reach} {base : Nat} {t : TypeId} {fs : Array Field} {v : Value} (ht : P.underlying t = some (.struct fs)) (h : Value.okWide P w r base t v) : ∃ cs, v = .agg cs ∧ cs.size = P.cellsOf t := by
  simp only [Value.okWide, ht] at h
  obtain ⟨cs, h1, h2, _⟩ := h
  exact ⟨cs, h1, h2⟩
section
variable {H : Type} {enc : TypeId × Value → H} {W : World} {base : Nat} {v : Value} {d : DataW H} {p : List MemPlace} {r : Reach} {b0 : Nat} {sp : Nat → Bool} {held : Bool}
set_option maxRecDepth 100000 in
theorem open_scope (hv : Value.okWide Tryz.prog W r b0 26 v) (h : DataW.Trod enc Tryz.prog W base sp held 26 v d p) : ∃ (z : Int) (b : ByteArray), v = scV z b ∧ b.size ≤ maxLen := by
  obtain ⟨cs, rfl, hsz⟩ := okWide_str2 Tryz.underlying26 hv
  obtain ⟨fuel, hf⟩ := h
  obtain ⟨z, b, he, hw⟩ := trod_scP Tryz.underlying26 rfl rfl rfl rfl Tryz.underlying3 Tryz.underlying9 cellsSc cellsIn cellsStr hf
  have : cs.toList = [.int .i64 z, .string b] := he
  exact ⟨z, b, by rw [show cs = #[.int .i64 z, .string b] by rw [← Array.toArray_toList (xs := cs), this]]; rfl, hw⟩
set_option maxRecDepth 100000 in
theorem open_digs (hv : Value.okWide Tryz.prog W r b0 24 v) (h : DataW.Trod enc Tryz.prog W base sp held 24 v d p) : ∃ A n c ds, v = .slice A n c ∧ Sl W W.heap.size 2 A n (flat dgC ds) ∧ n ≤ c ∧ c ≤ maxLen ∧ ∀ d ∈ ds, WfD d := by
  obtain ⟨A, n, c, rfl⟩ := okWide_slice Tryz.underlying24 hv
  obtain ⟨fuel, hf⟩ := h
  obtain ⟨A', n', c', us, he, h1, h2, h3, h4⟩ := trod_slP (encA := dgC) (Q := fun d => WfD d) Tryz.underlying24 cellsDg (by omega) dgC_len (fun _ _ _ hh => trod_dgP Tryz.underlying42 Tryz.underlying40 cellsDg cellsU64 hh) hf
  refine ⟨A', n', c', us, ?_, h1, h2, h3, h4⟩
  have : [Value.slice A n c] = [Value.slice A' n' c'] := he
  simpa using this
end
end Go.Proofs.YtlcecobipgmafaaGreatDoor
