/-
  Lemmas: The reference's visit and Load. Changes of files: Diff's answer, Patch's answer; in plain Lean. tree.store. slices.Sorted(maps.Keys(m)) at two kinds of maps. DERIVED: THE SHELF's CONTRACTS AT THIS DUMP, IN PLAIN WORDS (tools/lay-plain.mjs out of 'TryzSff.lean', which tools/lay-shelf.mjs wrote): THE SAME DECLARATIONS UNDER THE SAME NAMES: 'import', 'namespace', 'open', 'def', 'theorem' AND NOTHING ELSE: no command of the shelf's: FOR A HAND-IN. Each laying: the table of numbers ('.._ren') and one theorem, a field a fact of the dump's own or the kernel's comparison; each contract: ONE APPLICATION. slices.SortFunc of files by their paths, as tree.Load calls it. As in Range3; moreover the code that takes an element may make memory of its own (a variable that is boxed): the world changes ahead of the round. tree.all, tree.Load.
-/
import Derived.Shelf.SlSortCmp.WholeK
import Derived.Shelf.SlSortCmp.NoneTotal
import Derived.Ground.SlsfProg
import Derived.Ground.NamesProg
import Derived.Test.YtmdhlkkekidknaaGreatDoorProg
import Derived.RegionIn
import Derived.Test.YtmdhlkkekidknaaGreatDoorV11
import Derived.Test.YtmdhlkkekidknaaGreatDoorV9
import Derived.Test.YtmdhlkkekidknaaGreatDoorV10
import Derived.Test.YtmdhlkkekidknaaGreatDoorV6
import Derived.Test.YtmdhlkkekidknaaGreatDoorV1
import Derived.Test.YtmdhlkkekidknaaGreatDoorV4
import Derived.Test.YtmdhlkkekidknaaGreatDoorV3

namespace Go.Proofs.YtmdhlkkekidknaaGreatDoor
open Go.RowKit

theorem sl_on9 {w w' : World} {n size : Nat} {A : Option Addr} {xs : List Value} (h : Sl w w.heap.size size A n xs) (hb : Below w.heap.size w w') : Sl w' w'.heap.size size A n xs := (h.below hb (Nat.le_refl _)).more hb.size
def RvE (l : List Fl) (r : List Fl × Int) (w : World) (e : Ending) (w' : World) : Prop :=
  ((∃ err, RvErr l r err ∧ err ≠ 0 ∧ e = .returned (.tuple #[.slice none 0 0, .int .i64 err])) ∨
   (∃ m A c, RvOk l r m ∧ e = .returned (.tuple #[.slice A m.length c, .int .i64 0]) ∧ Sl w' w'.heap.size 2 A m.length (flat flC m))) ∧ Below w.heap.size w w'
def RVC (n : Nat) : Prop := ∀ (p : List Itm) (d : Dig) (pre : ByteArray) (l : List Fl) (A : Option Addr) (np cp B : Nat) (A1 : Option Addr) (m c1 : Nat) (w : World),
  PlOk p → Sl w B 3 A np (flat itC p) → Sl w B 2 A1 m (flat flC l) → B ≤ w.heap.size → np ≤ 1000000 → AscF l → l.length ≤ 200 → pre.size ≤ 101 → 102 ≤ n + pre.size → ((l ++ (vis p n d pre).1).map Prod.fst).Nodup →
  Calls Tryz.prog 73 #[.slice A np cp, digV d, .string pre, .slice A1 m c1] w (RvE l (vis p n d pre) w)
theorem rvErr_of {l : List Fl} {r : List Fl × Int} {z : Int} (h : r = ([], z)) (hl : l.length ≤ 200) (h0 : z ≠ 0) : RvErr l r z := by
  rw [h]; exact .inr ⟨by simpa using hl, h0, rfl⟩
set_option maxRecDepth 100000 in
set_option maxHeartbeats 16000000 in
theorem rvisit_core (n : Nat) (ih : RVC n) : RVC (n + 1) := by
  intro p d pre l A np cp B A1 m c1 w hp h0 h1 hB hnp ha hl hpre hn hnd
  obtain ⟨d1, d2⟩ := d
  have HP := Lib.hid hp; have HAS := Lib.hid ha; have IH := Lib.hid ih; have HND := Lib.hid hnd
  obtain ⟨W0, hW0⟩ : ∃ W, w.alloc (.cells #[.int .u64 d1, .int .u64 d2] 30) = W := ⟨_, rfl⟩
  have HB0 : Hid (Below w.heap.size w W0) := by rw [← hW0]; exact (Below.refl _ w).alloc (Nat.le_refl _) _
  have HK0 : Hid (Bk W0 w.heap.size 30 #[.int .u64 d1, .int .u64 d2]) := by rw [← hW0]; exact Bk.new w _ _
  have zw : w.heap.size < W0.heap.size := HK0.out.lt
  have H0 : Hid (Sl W0 B 3 A np (flat itC p)) := h0.below HB0.out hB
  have H1 : Hid (Sl W0 B 2 A1 m (flat flC l)) := h1.below HB0.out hB
  have HM : Hid (l.length = m) := h1.len flC_len (by omega)
  have HG := Lib.hid (get8_any A np cp B p (d1, d2) W0 H0.out (by omega) hnp hp)
  unfold Gr8E at HG
  simp only [digV] at HG ⊢
  obtain ⟨x0, x1, _, _⟩ := HK0.out.two
  have HW0 := Lib.hid hW0
  rw [← hW0] at x0 x1
  clear hp h0 h1 ha ih hnd hW0
  go_enter Tryz.func73, Tryz.ntmps73
  go_wp2_with fail
  rw [HW0.out]
  refine HG.out.mono ?_
  rintro e w2 ⟨hq, hb⟩
  have HB2 : Hid (Below w.heap.size w w2) := HB0.out.trans (hb.mono HB0.out.size)
  have zw2 : w.heap.size < w2.heap.size := Nat.lt_of_lt_of_le zw hb.size
  have HBX : Hid (Below W0.heap.size W0 w2) := hb
  clear hb HG x0 x1 HW0
  rcases hq with ⟨o, s, hg, ho, rfl, hm⟩ | ⟨hg, rfl⟩
  case inr =>
    have HV := Lib.hid (vis_none (n := n) (pre := pre) hg)
    clear hg
    simp only [obV, obC, zOb, zOs]
    go_wp2_with fail
    go_ret2
    exact ⟨.inl ⟨8, rvErr_of HV.out hl (by decide), by decide, rfl⟩, HB2.out.alloc HB2.out.size _⟩
  case inl =>
    obtain ⟨W3, hW3⟩ : ∃ W3, w2.alloc (.cells (obC o s) 82) = W3 := ⟨_, rfl⟩
    have hb3 : Below w2.heap.size w2 W3 := by rw [← hW3]; exact (Below.refl _ w2).alloc (Nat.le_refl _) _
    have HB3 : Hid (Below w.heap.size w W3) := HB2.out.trans (hb3.mono HB2.out.size)
    have HBX3 : Hid (Below W0.heap.size W0 W3) := HBX.out.trans (hb3.mono HBX.out.size)
    have HK3 : Hid (Bk W3 w2.heap.size 82 (obC o s)) := by rw [← hW3]; exact Bk.new w2 _ _
    have HE3 : Hid (Sl W3 W3.heap.size 4 s.eA s.en (flat enC o.ents)) := (hm.e.below hb3 (Nat.le_refl _)).more hb3.size
    have hlen : s.en ≤ maxLen := Nat.le_trans hm.ele hm.emx
    have HEL := Lib.hid hm.elen
    have z3 : w2.heap.size < W3.heap.size := HK3.out.lt
    have hlen' : s.en ≤ 9223372036854775807 := by unfold maxLen at hlen; exact hlen
    simp only [obV, obC]
    have HW3 := Lib.hid hW3
    unfold obC at HW3 HK3
    obtain ⟨k0, k1, k2, k3, k4, k5, k6, k7, k8⟩ := HK3.out.nine
    have HO := Lib.hid ho; have HGG := Lib.hid hg
    clear hW3 hm hb3 HBX HB2 ho hg hlen
    by_cases hk : o.kind = 2
    case neg =>
      have HV := Lib.hid (vis_kind (n := n) (pre := pre) HGG.out hk)
      have t1 : (o.kind != 2) = true := by rw [bne_iff_ne]; exact hk
      clear hk
      rw [← HW3.out] at k0
      go_wp2_with fail
      rw [HW3.out]
      go_ret2
      exact ⟨.inl ⟨9, rvErr_of HV.out hl (by decide), by decide, rfl⟩, HB3.out⟩
    have t1 : (o.kind != 2) = false := by rw [hk]; rfl
    by_cases hemp : o.ents = [] ∧ pre ≠ ⟨#[]⟩
    case pos =>
      have HV := Lib.hid (vis_empty (n := n) (pre := pre) HGG.out hk hemp.1 hemp.2)
      have hen : s.en = 0 := by rw [← HEL.out, hemp.1]; rfl
      have t2 := str_emp hemp.2
      clear hk hemp k0 k1 k2 k3 k4 k5 k6 k7 k8
      rw [hen] at HW3 HK3 ⊢
      obtain ⟨k0, k1, k2, k3, k4, k5, k6, k7, k8⟩ := HK3.out.nine
      rw [← HW3.out] at k0 k2
      clear hen k1 k3 k4 k5 k6 k7 k8
      go_wp2_with fail
      rw [HW3.out]
      go_ret2
      exact ⟨.inl ⟨1, rvErr_of HV.out hl (by decide), by decide, rfl⟩, HB3.out⟩
    have HV := Lib.hid (vis_ents (n := n) (pre := pre) HGG.out hk hemp)
    have HES := Lib.hid (okO_tree HO.out hk)
    have hw2 : ((s.en : Int) == 0) = false ∨ (((s.en : Int) == 0) = true ∧ pre.toList.isEmpty = true) := by
      by_cases h1 : s.en = 0
      · refine .inr ⟨by rw [h1]; rfl, ?_⟩
        have h2 : o.ents = [] := List.eq_nil_of_length_eq_zero (by rw [HEL.out]; exact h1)
        by_cases h3 : pre = ⟨#[]⟩
        · rw [h3, ByteArray.toList_eq]; rfl
        · exact absurd ⟨h2, h3⟩ hemp
      · exact .inl (by rw [beq_eq_false_iff_ne]; omega)
    obtain ⟨es, hes0⟩ : ∃ es, o.ents = es := ⟨_, rfl⟩
    rw [hes0] at HV HES HE3 HEL
    rw [HV.out] at HND
    obtain ⟨kd, dat, ents, tree, pars, auth, time, msg⟩ := o
    obtain ⟨eA, en, ec, pA, pn, pc⟩ := s
    clear hemp hes0 HGG HO
    simp only at HE3 HEL hlen' hw2 HK3 HW3 hk t1 k0 k1 k2 k3 k4 k5 k6 k7 k8 ⊢
    have HKD := Lib.hid hk
    clear hk
    unfold RVC at IH
    have HFin : Hid (∀ e w', RvE l (vsE (vis p n) p pre es) w e w' → RvE l (vis p (n + 1) (d1, d2) pre) w e w') := fun e w' h => by rw [HV.out]; exact h
    clear HV
    rw [← HW3.out] at k0 k2
    rcases hw2 with t2 | ⟨t2, t3⟩
    all_goals
      go_wp2_with fail
      rw [HW3.out]
      try clear t3
      clear t2 k0 k1 k2 k3 k4 k5 k6 k7 k8
      go_loopw [3, 12] (fun q i wr => ∃ (j : Nat) (fs mm : List Fl) (A' : Option Addr) (mn c' : Nat), i = .int .i64 (j : Int) ∧ j ≤ en ∧ q = .slice A' mn c' ∧ mm.length = mn ∧ Hid (RvAt (vis p n) p pre es l j fs mm) ∧ Hid (Sl wr wr.heap.size 2 A' mn (flat flC mm)) ∧ Hid (Below W3.heap.size W3 wr)) (fun _ i _ => en - (intOf i).toNat)
      case atStart => exact ⟨0, [], l, A1, m, c1, rfl, Nat.zero_le _, rfl, HM.out, RvAt.start HAS.out hl, (H1.out.below HBX3.out (by omega)).more (by omega), Below.refl _ _⟩
      case round =>
        obtain ⟨j, fs, mm, A', mn, c', rfl, hj, rfl, hmn, hAt, hSl, hBel⟩ := hrel
        have HAT := Lib.hid hAt.out; have HSL := Lib.hid hSl.out; have HBE := Lib.hid hBel.out; have HMN := Lib.hid hmn
        have hm200 : mn ≤ 200 := by rw [← hmn]; have h1 := hAt.out.mlen; have h2 := hAt.out.few; omega
        have HBW : Hid (Below w.heap.size w wr) := HB3.out.trans (HBE.out.mono (by omega))
        have zr : W3.heap.size ≤ wr.heap.size := HBE.out.size
        have HPr : Hid (Sl wr wr.heap.size 3 A np (flat itC p)) := ((H0.out.below (HBX3.out.trans (HBE.out.mono HBX3.out.size)) (by omega)).more (by omega))
        obtain ⟨k0, k1, k2, k3, k4, k5, k6, k7, k8⟩ := (HK3.out.below HBE.out z3).nine
        clear hAt hSl hBel hmn k0 k1 k3 k4 k5 k6 k7 k8
        by_cases hlt : j < en
        · obtain ⟨b, off, e, rfl, hbB, he, y0, y1, y2, y3⟩ := (HE3.out.below HBE.out (Nat.le_refl _)).en hlt
          have hlz : (j : Int) < (en : Int) := by omega
          have HE := Lib.hid he
          have hnm := (name_len (HES.out.all e (List.mem_of_getElem? he)).nm)
          have hnm1 := (nameB_pos (HES.out.all e (List.mem_of_getElem? he)).nm)
          clear he
          obtain ⟨nm, dir, ⟨g1, g2⟩⟩ := e
          simp only at y0 y1 y2 y3 hnm hnm1
          obtain ⟨We, hWe⟩ : ∃ We, wr.alloc (.cells #[.string nm, .bool dir, .int .u64 g1, .int .u64 g2] 102) = We := ⟨_, rfl⟩
          have hbe : Below wr.heap.size wr We := by rw [← hWe]; exact (Below.refl _ wr).alloc (Nat.le_refl _) _
          have HKe : Hid (Bk We wr.heap.size 102 #[.string nm, .bool dir, .int .u64 g1, .int .u64 g2]) := by rw [← hWe]; exact Bk.new wr _ _
          have HPe := Lib.hid (sl_on9 HPr.out hbe)
          have HSe := Lib.hid (sl_on9 HSL.out hbe)
          have HBe3 : Hid (Below W3.heap.size W3 We) := HBE.out.trans (hbe.mono zr)
          have HBe : Hid (Below w.heap.size w We) := HBW.out.trans (hbe.mono HBW.out.size)
          have ze : wr.heap.size < We.heap.size := HKe.out.lt
          have hap : ¬ (9223372036854775807 < pre.size + nm.size) := by omega
          obtain ⟨path, hpath⟩ : ∃ path, pre ++ nm = path := ⟨_, rfl⟩
          have hpsz : path.size = pre.size + nm.size := by rw [← hpath]; exact ByteArray.size_append
          have HWe := Lib.hid hWe; have HPA := Lib.hid hpath
          obtain ⟨q0, q1, q2, q3⟩ := HKe.out.four
          rw [← hWe] at q0 q1 q2 q3
          clear hWe hbe HSL HPr HBE
          by_cases hfar : 100 < path.size
          · have hfz : (100 : Int) < (path.size : Int) := by omega
            have HR := Lib.hid (HAT.out.err HE.out (vsE_far (by rw [HPA.out]; exact hfar)) (by decide))
            clear hfar HWe
            go_wp2_with fail
            go_ret2
            exact HFin.out _ _ ⟨.inl ⟨4, HR.out, by decide, rfl⟩, HBW.out.alloc HBW.out.size _⟩
          have hfz : ¬ (100 : Int) < (path.size : Int) := by omega
          have HNF : Hid (¬ 100 < (pre ++ nm).size) := by rw [HPA.out]; exact hfar
          clear hfar
          cases dir with
          | true =>
            obtain ⟨r, hr⟩ : ∃ r, vis p n (g1, g2) (path ++ slB) = r := ⟨_, rfl⟩
            have hr' : vis p n (g1, g2) (pre ++ nm ++ slB) = r := by rw [hpath]; exact hr
            have hsz : (path ++ slB).size = path.size + 1 := ByteArray.size_append
            have HC := Lib.hid (IH.out p (g1, g2) (path ++ slB) mm A np cp We.heap.size A' mn c' We HP.out HPe.out HSe.out (Nat.le_refl _) hnp HAT.out.asc (by rw [HMN.out]; exact hm200) (by omega) (by omega) (by rw [hr]; exact HAT.out.nodS HE.out HND.out HNF.out rfl hr'))
            rw [hr] at HC
            have HR := Lib.hid hr'
            simp only [slB, digV] at HC
            have hap2 : ¬ (9223372036854775807 < path.size + 1) := by omega
            clear hr hr' hsz
            go_wp2_with fail
            rw [HWe.out]
            clear hpath
            refine HC.out.mono ?_
            rintro e w5 ⟨hq, hb5⟩
            have HB5 : Hid (Below w.heap.size w w5) := HBe.out.trans (hb5.mono HBe.out.size)
            have HB53 : Hid (Below W3.heap.size W3 w5) := HBe3.out.trans (hb5.mono HBe3.out.size)
            clear hb5 HC q0 q1 q2 q3 HWe y0 y1 y2 y3 k2
            rcases hq with ⟨err, hrv, hz, rfl⟩ | ⟨m', A2, c2, hok, rfl, hsl⟩
            · have t4 : (err != 0) = true := by rw [bne_iff_ne]; exact hz
              have HX := Lib.hid (HAT.out.subE HE.out HNF.out rfl HR.out hrv)
              have HZ := Lib.hid hz
              clear hz hrv
              go_wp2_with fail
              go_ret2
              exact HFin.out _ _ ⟨.inl ⟨err, HX.out, HZ.out, rfl⟩, HB5.out⟩
            · have HX := Lib.hid (HAT.out.sub HE.out HNF.out rfl HR.out hok)
              have HS5 := Lib.hid hsl
              clear hok hsl
              go_wp2_with fail
              go_roundw
              case rel => exact ⟨j + 1, _, m', A2, m'.length, c2, by go_num, hlt, rfl, rfl, HX.out, HS5.out, HB53.out⟩
              case measure => simp [intOf]; omega
          | false =>
            have HC := Lib.hid (get8_any A np cp We.heap.size p (g1, g2) We HPe.out (Nat.le_refl _) hnp HP.out)
            unfold Gr8E at HC
            simp only [digV] at HC
            go_wp2_with fail
            rw [HWe.out]
            clear hpath
            refine HC.out.mono ?_
            rintro e w5 ⟨hq, hb5⟩
            have HB5 : Hid (Below w.heap.size w w5) := HBe.out.trans (hb5.mono HBe.out.size)
            have HB53 : Hid (Below W3.heap.size W3 w5) := HBe3.out.trans (hb5.mono HBe3.out.size)
            have HS5 := Lib.hid (sl_on9 HSe.out hb5)
            clear hb5 HC q0 q1 q2 q3 HWe y0 y1 y2 y3 k2
            rcases hq with ⟨o2, s2, hg2, ho2, rfl, hm2⟩ | ⟨hg2, rfl⟩
            case inr =>
              have HR := Lib.hid (HAT.out.err HE.out (vsE_none HNF.out rfl hg2) (by decide))
              clear hg2
              simp only [obV, obC, zOb, zOs]
              go_wp2_with fail
              go_ret2
              exact HFin.out _ _ ⟨.inl ⟨8, HR.out, by decide, rfl⟩, HB5.out.alloc HB5.out.size _⟩
            case inl =>
              have HG2 := Lib.hid hg2
              clear ho2 hm2 hg2
              simp only [obV, obC]
              obtain ⟨W6, hW6⟩ : ∃ W, w5.alloc (.cells #[.int .i64 o2.kind, .string o2.data, .slice s2.eA s2.en s2.ec, .int .u64 o2.tree.1, .int .u64 o2.tree.2, .slice s2.pA s2.pn s2.pc, .string o2.auth, .int .i64 o2.time, .string o2.msg] 82) = W := ⟨_, rfl⟩
              have hb6 : Below w5.heap.size w5 W6 := by rw [← hW6]; exact (Below.refl _ w5).alloc (Nat.le_refl _) _
              have HK6 : Hid (Bk W6 w5.heap.size 82 #[.int .i64 o2.kind, .string o2.data, .slice s2.eA s2.en s2.ec, .int .u64 o2.tree.1, .int .u64 o2.tree.2, .slice s2.pA s2.pn s2.pc, .string o2.auth, .int .i64 o2.time, .string o2.msg]) := by rw [← hW6]; exact Bk.new w5 _ _
              have HB6 : Hid (Below w.heap.size w W6) := HB5.out.trans (hb6.mono HB5.out.size)
              have HB63 : Hid (Below W3.heap.size W3 W6) := HB53.out.trans (hb6.mono HB53.out.size)
              have HS6 := Lib.hid (sl_on9 HS5.out hb6)
              obtain ⟨k0, k1, _⟩ := HK6.out.nine
              rw [← hW6] at k0 k1
              have HW6 := Lib.hid hW6
              clear hb6 hW6 HS5 HB53
              by_cases hk1 : o2.kind = 1
              case neg =>
                have t4 : (o2.kind != 1) = true := by rw [bne_iff_ne]; exact hk1
                have HR := Lib.hid (HAT.out.err HE.out (vsE_kind HNF.out rfl HG2.out hk1) (by decide))
                clear hk1
                go_wp2_with fail
                go_ret2
                exact HFin.out _ _ ⟨.inl ⟨9, HR.out, by decide, rfl⟩, HB5.out.alloc HB5.out.size _⟩
              case pos =>
                have t4 : (o2.kind != 1) = false := by rw [hk1]; rfl
                by_cases hfull : mn = 200
                · have t5 : ((mn : Int) == 200) = true := by rw [hfull]; rfl
                  have HR := Lib.hid (HAT.out.full HE.out HNF.out rfl HG2.out hk1 (by rw [HMN.out]; exact hfull))
                  clear hk1 hfull
                  go_wp2_with fail
                  go_ret2
                  exact HFin.out _ _ ⟨.inl ⟨4, HR.out, by decide, rfl⟩, HB5.out.alloc HB5.out.size _⟩
                · have t5 : ((mn : Int) == 200) = false := by rw [beq_eq_false_iff_ne]; omega
                  have HR := Lib.hid (HAT.out.file HE.out HND.out HNF.out rfl HG2.out hk1 (by rw [HMN.out]; exact hfull))
                  have HC := Lib.hid (with9_any A' mn c' W6.heap.size mm (path, o2.data) W6 HS6.out (Nat.le_refl _) (by omega) HAT.out.asc)
                  unfold FlsE fileV at HC
                  rw [HPA.out] at HR
                  obtain ⟨mx, hmx⟩ : ∃ mx, withF mm (path, o2.data) = mx := ⟨_, rfl⟩
                  simp only at HC HR
                  rw [hmx] at HC HR
                  clear hk1 hfull hmx
                  go_wp2_with fail
                  rw [HW6.out]
                  refine HC.out.mono ?_
                  rintro e w7 ⟨A2, c2, rfl, hsl, _, _, hb7⟩
                  have HB73 : Hid (Below W3.heap.size W3 w7) := HB63.out.trans (hb7.mono HB63.out.size)
                  have HS7 := Lib.hid hsl
                  clear hb7 hsl HC k0 k1 HW6
                  go_wp2_with fail
                  go_roundw
                  case rel => exact ⟨j + 1, _, mx, A2, mx.length, c2, by go_num, hlt, rfl, rfl, HR.out, HS7.out, HB73.out⟩
                  case measure => simp [intOf]; omega
        · have hlz : ¬ (j : Int) < (en : Int) := by omega
          have HR := Lib.hid (HAT.out.done (by rw [HEL.out]; omega))
          go_wp2_with fail
          go_ret2
          exact HFin.out _ _ ⟨.inr ⟨mm, A', c', HR.out, by rw [HMN.out]; rfl, by rw [HMN.out]; exact HSL.out⟩, HBW.out⟩
theorem rvisit_all : ∀ n, RVC n
  | 0 => fun p d pre l A np cp B A1 m c1 w _ _ _ _ _ _ _ h1 h2 _ => by omega
  | n + 1 => rvisit_core n (rvisit_all n)
def RldE (p : List Itm) (d : Dig) (w : World) (e : Ending) (w' : World) : Prop :=
  ((∃ fs A c, LdSeq p d fs ∧ e = .returned (.tuple #[.slice A fs.length c, .int .i64 0]) ∧ Sl w' w'.heap.size 2 A fs.length (flat flC fs)) ∨ (∃ err, LodE p d err ∧ err ≠ 0 ∧ e = .returned (.tuple #[.slice none 0 0, .int .i64 err]))) ∧ Below w.heap.size w w'
set_option maxRecDepth 100000 in
set_option maxHeartbeats 4000000 in
theorem rload9_any (A : Option Addr) (np cp B : Nat) (p : List Itm) (d : Dig) (w : World) (h0 : Sl w B 3 A np (flat itC p)) (hB : B ≤ w.heap.size) (hnp : np ≤ 1000000) (hp : PlOk p) :
    Calls Tryz.prog 32 #[.slice A np cp, digV d] w (RldE p d w) := by
  obtain ⟨d1, d2⟩ := d
  obtain ⟨W0, hW0⟩ : ∃ W, (w.alloc (.cells #[.int .u64 d1, .int .u64 d2] 30)).alloc (.cells #[] 68) = W := ⟨_, rfl⟩
  have HB0 : Hid (Below w.heap.size w W0) := by rw [← hW0]; exact ((Below.refl _ w).alloc (Nat.le_refl _) _).alloc (by simp) _
  have HC := Lib.hid (rvisit_all 102 p (d1, d2) ⟨#[]⟩ [] A np cp B (some ⟨w.heap.size + 1, 0, none⟩) 0 0 W0 hp (h0.below HB0.out hB) (Sl.nil _ _ _ _) (Nat.le_trans hB HB0.out.size) hnp List.Pairwise.nil (by simp) (by show (0 : Nat) ≤ 101; omega) (by show 102 ≤ 102 + 0; omega) (by simpa using vis_nodup hp 102 (d1, d2) ⟨#[]⟩))
  have HV : Hid (vis p 102 (d1, d2) ⟨#[]⟩ = visW p (d1, d2)) := rfl
  rw [HV.out] at HC
  unfold RvE at HC
  have HW0 := Lib.hid hW0
  simp only [digV] at HC ⊢
  clear h0 hW0
  go_enter Tryz.func32, Tryz.ntmps32
  go_wp2_with fail
  rw [HW0.out]
  refine HC.out.mono ?_
  rintro e w2 ⟨hq, hb⟩
  have HB2 : Hid (Below w.heap.size w w2) := HB0.out.trans (hb.mono HB0.out.size)
  clear hb HC HW0
  rcases hq with ⟨err, hrv, hz, rfl⟩ | ⟨m', A2, c2, hok, rfl, hsl⟩
  · have HX := Lib.hid (rv_topE hrv); have HZ := Lib.hid hz
    clear hrv hz
    go_wp2_with fail
    go_ret2
    exact ⟨.inr ⟨err, HX.out, HZ.out, rfl⟩, HB2.out⟩
  · have HX := Lib.hid (rv_top hok); have HS := Lib.hid hsl
    clear hok hsl
    go_wp2_with fail
    go_ret2
    exact ⟨.inl ⟨m', A2, c2, HX.out, rfl, HS.out⟩, HB2.out⟩
end Go.Proofs.YtmdhlkkekidknaaGreatDoor

namespace Go.Proofs.YtmdhlkkekidknaaGreatDoor
open Go.RowKit

theorem ascBy_ext {α : Type} (key : α → ByteArray) : ∀ {l m : List α}, l.Pairwise (fun a b => less (key a) (key b) = true) → m.Pairwise (fun a b => less (key a) (key b) = true) → (∀ x, x ∈ l ↔ x ∈ m) → l = m := by
  intro l
  induction l with
  | nil =>
    intro m _ _ h
    cases m with
    | nil => rfl
    | cons y q => exact absurd ((h y).2 (by simp)) (by simp)
  | cons x p ih =>
    intro m hl hm h
    cases m with
    | nil => exact absurd ((h x).1 (by simp)) (by simp)
    | cons y q =>
      have hl' := List.pairwise_cons.1 hl
      have hm' := List.pairwise_cons.1 hm
      have e : x = y := by
        have h1 := (h x).1 (by simp)
        have h2 := (h y).2 (by simp)
        rcases List.mem_cons.1 h1 with e | h1
        · exact e
        rcases List.mem_cons.1 h2 with e | h2
        · exact e.symm
        exact absurd (lessB_trans (hm'.1 _ h1) (hl'.1 _ h2)) (by rw [lessB_irrefl]; simp)
      subst e
      rw [ih hl'.2 hm'.2]
      intro i
      constructor
      · intro hi
        rcases List.mem_cons.1 ((h i).1 (List.mem_cons_of_mem _ hi)) with rfl | h'
        · exact absurd (hl'.1 _ hi) (by rw [lessB_irrefl]; simp)
        · exact h'
      · intro hi
        rcases List.mem_cons.1 ((h i).2 (List.mem_cons_of_mem _ hi)) with rfl | h'
        · exact absurd (hm'.1 _ hi) (by rw [lessB_irrefl]; simp)
        · exact h'
structure FCh where
  path : ByteArray
  ho : Bool
  hn : Bool
  old : ByteArray
  new : ByteArray
def fcC (x : FCh) : List Value := [.string x.path, .bool x.ho, .bool x.hn, .string x.old, .string x.new]
theorem fcC_len (x : FCh) : (fcC x).length = 5 := rfl
def eB : ByteArray := ⟨#[]⟩
def chg (a b : List Fl) (s : ByteArray) : FCh := ⟨s, (lookF9 a s).isSome, (lookF9 b s).isSome, (lookF9 a s).getD eB, (lookF9 b s).getD eB⟩
def isCh (x : FCh) : Prop := x.ho ≠ x.hn ∨ x.old ≠ x.new
instance (x : FCh) : Decidable (isCh x) := by unfold isCh; infer_instance
def AscC (c : List FCh) : Prop := c.Pairwise (fun a b => less a.path b.path = true)
structure DifR (a b : List Fl) (c : List FCh) : Prop where
  asc : AscC c
  mem : ∀ x, x ∈ c ↔ x = chg a b x.path ∧ isCh x
theorem DifR.uniq {a b : List Fl} {c d : List FCh} (h : DifR a b c) (g : DifR a b d) : c = d := ascBy_ext FCh.path h.asc g.asc (fun x => by rw [h.mem, g.mem])
theorem DifR.nil {a b : List Fl} {c : List FCh} (h : DifR a b c) (hs : ∀ s, lookF9 a s = lookF9 b s) : c = [] := by
  cases c with
  | nil => rfl
  | cons x c =>
    obtain ⟨h1, h2⟩ := (h.mem x).1 (by simp)
    rw [h1] at h2
    unfold isCh chg at h2
    rw [hs] at h2
    simp at h2
theorem difR_of {a b : List Fl} {ks : List ByteArray} (ha : Asc ks) (hm : ∀ s, s ∈ ks ↔ ((lookF9 a s).isSome = true ∨ (lookF9 b s).isSome = true)) : DifR a b ((ks.map (chg a b)).filter (fun x => decide (isCh x))) := by
  refine ⟨List.Pairwise.filter _ ?_, fun x => ?_⟩
  · rw [List.pairwise_map]; exact ha
  · rw [List.mem_filter, List.mem_map, decide_eq_true_eq]
    constructor
    · rintro ⟨⟨s, _, rfl⟩, h⟩; exact ⟨rfl, h⟩
    · rintro ⟨h1, h2⟩
      refine ⟨⟨x.path, (hm _).2 ?_, h1.symm⟩, h2⟩
      rw [h1] at h2
      unfold isCh chg at h2
      simp only at h2
      cases e1 : lookF9 a x.path with
      | some _ => exact .inl rfl
      | none =>
        cases e2 : lookF9 b x.path with
        | some _ => exact .inr rfl
        | none => rw [e1, e2] at h2; simp at h2
section
variable {l m : List Fl} {c : List FCh} {j : Nat} {x : FCh}
end
end Go.Proofs.YtmdhlkkekidknaaGreatDoor

namespace Go.Proofs.YtmdhlkkekidknaaGreatDoor
open Go.RowKit Go.Maps

theorem infoFile : (Tryz.prog.info? 68).map (fun i => (i.zero, i.size, i.bytes)) = some (some (.agg #[.string ⟨#[]⟩, .string ⟨#[]⟩]), 2, 32) := by kernel_rfl
theorem blobC_eq (s : ByteArray) : (Value.agg (blobC s)) = obV (blobO s) zOs := rfl
theorem obM_zero (w : World) (B : Nat) (s : ByteArray) : ObM w B (blobO s) zOs := ⟨Sl.nil _ _ _ _, Sl.nil _ _ _ _, Nat.le_refl _, Nat.zero_le _, Nat.le_refl _, Nat.zero_le _⟩
theorem new_file (w : World) (x y : ByteArray) : ∀ j u, [Value.string x, .string y][j]? = some u → (w.alloc (.cells #[.string x, .string y] 68)).cell? (Addr.add ⟨w.heap.size, 0, none⟩ j) = some u := by
  intro j u hj
  have hb : Bk (w.alloc (.cells #[.string x, .string y] 68)) w.heap.size 68 #[.string x, .string y] := Bk.new w _ _
  rw [Addr.add_lit, hb.cell]
  rcases j with _ | _ | j
  · simpa using hj
  · simpa using hj
  · simp at hj
theorem nod_at {l : List Fl} (h : (l.map Prod.fst).Nodup) {k : Nat} {f : Fl} (hf : l[k]? = some f) : f.1 ∉ (l.take k).map Prod.fst := by
  intro hm
  rw [List.map_take] at hm
  obtain ⟨i, hi, e⟩ := List.getElem_of_mem hm
  rw [List.length_take] at hi
  rw [List.getElem_take] at e
  obtain ⟨h1, h2⟩ := List.getElem?_eq_some_iff.1 hf
  have h3 : (l.map Prod.fst)[k]'(by simpa using h1) = f.1 := by rw [List.getElem_map, h2]
  exact List.pairwise_iff_getElem.1 h i k (by omega) (by simpa using h1) (by omega) (e.trans h3.symm)
section
variable {w w' : World} {base : Nat} {A0 A A' : Option Addr} {c0 c c' : Nat} {p q q' : List Itm}
theorem Ply.below (h : Ply w base A0 c0 p A c q) (hb : Below w.heap.size w w') : Ply w' base A0 c0 p A c q := by
  rcases h with h | h
  · exact .inl h
  · exact .inr (ownsRow_upon h hb)
theorem Ply.box (h : Ply w base A0 c0 p A c q) {b : Nat} {t : TypeId} {cs : Array Value} (hb : Bk w b t cs) (hne : 38 ≠ t) (i : Nat) (x : Value) : Ply (w.setCell ⟨b, i, none⟩ x) base A0 c0 p A c q := by
  rcases h with h | h
  · exact .inl h
  · exact .inr (ownsRow_bk h hb hne i x)
theorem Ply.others (h : Ply w base A0 c0 p A c q) {e : TypeId} (ho : OthersKept e w w') (hne : 38 ≠ e) : Ply w' base A0 c0 p A c q := by
  rcases h with h | h
  · exact .inl h
  · exact .inr (ho _ _ _ _ _ _ hne h)
theorem Ply.trans {n' : Nat} (h : Ply w base A0 c0 p A c q) (hb : Below w.heap.size w w') (k : Ply w' n' A c q A' c' q') (hn : base ≤ n') : Ply w' base A0 c0 p A' c' q' := by
  rcases k with ⟨rfl, rfl, rfl⟩ | k
  · exact h.below hb
  · exact .inr (ownsRow_low k hn)
theorem Ply.sl {B : Nat} (h : Ply w base A0 c0 p A c q) (h0 : Sl w B 3 A0 p.length (flat itC p)) (hB : B ≤ w.heap.size) : Sl w w.heap.size 3 A q.length (flat itC q) := by
  rcases h with ⟨rfl, _, rfl⟩ | h
  · exact h0.more hB
  · exact Sl.of_own h
end
def StoE (k : Nat) (l : List Fl) (A0 : Option Addr) (c0 : Nat) (p : List Itm) (w : World) (e : Ending) (w' : World) : Prop :=
  ((∃ q d A c, sto k p l = some (q, d) ∧ StoR p q d l ∧ e = .returned (.tuple #[.slice A q.length c, digV d, .int .i64 0]) ∧ Sl w' w'.heap.size 3 A q.length (flat itC q) ∧ q.length ≤ c ∧ c ≤ maxLen ∧ Ply w' w.heap.size A0 c0 p A c q) ∨ (sto k p l = none ∧ e = .returned (.tuple #[.slice none 0 0, digV zD, .int .i64 16]))) ∧ Below w.heap.size w w'
def StoC (k : Nat) : Prop := ∀ (l : List Fl), OkL l → (∀ f ∈ l, f.1.size ≤ k) → ∀ (p : List Itm) (A : Option Addr) (n c : Nat) (A1 : Option Addr) (m c1 B : Nat) (w : World),
    Sl w B 3 A n (flat itC p) → Sl w B 2 A1 m (flat flC l) → B ≤ w.heap.size → n ≤ c → c ≤ maxLen → PlOk p → n + wt l ≤ 800000 →
    Calls Tryz.prog 45 #[.slice A n c, .slice A1 m c1] w (StoE (k + 1) l A c p w)
set_option maxRecDepth 100000 in
set_option maxHeartbeats 16000000 in
theorem store_core (k : Nat) (ih : ∀ k', k = k' + 1 → StoC k') : StoC k := by
  intro l hl hlk p A n c A1 m c1 B w hp0 hl0 hB hnc hcm hpo hsz
  have HPL := Lib.hid (hp0.len itC_len (by omega))
  have HLL := Lib.hid (hl0.len flC_len (by omega))
  have HP0 := Lib.hid hp0; have HL0 := Lib.hid hl0; have HOL := Lib.hid hl; have HLK := Lib.hid hlk; have HNC := Lib.hid hnc; have HCM := Lib.hid hcm; have HPO := Lib.hid hpo; have HSZ := Lib.hid hsz
  have IH := Lib.hid ih
  have HPQ : Hid (∀ (W : World) (Ax : Option Addr) (cx : Nat) (qx : List Itm), Ply W w.heap.size A c p Ax cx qx → Below w.heap.size w W → Sl W W.heap.size 3 Ax qx.length (flat itC qx)) := fun W Ax cx qx h hb => by
    have h1 := HP0.out
    rw [← HPL.out] at h1
    exact h.sl (h1.below hb hB) (by have := hb.size; omega)
  have hm2 : m ≤ 200 := by rw [← HLL.out]; exact hl.few
  clear hp0 hl0 hl hlk hnc hcm hpo hsz ih
  have hmm := @run_makeMap Tryz.prog
  obtain ⟨W0, hW0⟩ : ∃ W, ((w.alloc (.cells #[.int .u64 0, .int .u64 0] 30)).alloc (.map #[] 0)).alloc (.map #[] 0) = W := ⟨_, rfl⟩
  have HD0 : Hid (Bk W0 w.heap.size 30 #[.int .u64 0, .int .u64 0]) := by rw [← hW0]; exact ((Bk.new w _ _).alloc _).alloc _
  have HM0 : Hid (StM W0 (w.heap.size + 1) (w.heap.size + 2) (w.heap.size + 3) 0 (fun _ => none) (fun _ => none) (l.take 0)) := by
    show StM _ _ _ _ _ _ _ []
    rw [← hW0]
    have := StM.start (w.alloc (.cells #[.int .u64 0, .int .u64 0] 30)) (w.heap.size + 3)
    rw [World.size_alloc] at this
    exact this
  have HB0 : Hid (Below w.heap.size w W0) := by rw [← hW0]; exact (((Below.refl _ w).alloc (Nat.le_refl _) _).alloc (by simp) _).alloc (by simp; omega) _
  have zW0 : w.heap.size + 3 = W0.heap.size := by rw [← hW0]; simp
  have HW0 := Lib.hid hW0
  clear hW0
  go_enter Tryz.func45, Tryz.ntmps45
  go_wp2_with fail
  rw [HW0.out]
  go_wp2_with fail
  go_loopw [26] (fun i wr => ∃ (j : Nat) (gb gf : ByteArray → Option Value), j ≤ m ∧ i = .int .i64 (j : Int) ∧ Hid (StM wr (w.heap.size + 1) (w.heap.size + 2) (w.heap.size + 3) j gb gf (l.take j)) ∧ Hid (Bk wr w.heap.size 30 #[.int .u64 0, .int .u64 0]) ∧ Hid (Below w.heap.size w wr) ∧ w.heap.size + 3 ≤ wr.heap.size) (fun i _ => m - (intOf i).toNat)
  case atStart => exact ⟨0, _, _, Nat.zero_le _, rfl, HM0.out, HD0.out, HB0.out, by omega⟩
  case round =>
    clear HM0 HD0 HB0 HW0
    obtain ⟨j, gb, gf, hj, rfl, hS, hD, hBel, hwz⟩ := hrel
    by_cases hlt : j < m
    · have hlz : (j : Int) < (m : Int) := by omega
      obtain ⟨bb, off, f, rfl, hbB, hf, y0, y1⟩ := (HL0.out.below hBel.out hB).fl hlt
      have HF := Lib.hid hf
      have hPT := HOL.out.path f (List.mem_of_getElem? hf)
      have hfs : f.1.size ≤ 100 := path_len hPT
      have hns := (name_len (path_name hPT)).2
      have HND := Lib.hid (nod_at HOL.out.nod hf)
      have HTK := Lib.hid (take_snoc hf)
      clear hf hPT
      obtain ⟨fp, fd⟩ := f
      simp only at y0 y1 hfs hns
      obtain ⟨W1, hW1⟩ : ∃ W, wr.alloc (.cells #[.string fp, .string fd] 68) = W := ⟨_, rfl⟩
      have HK1 : Hid (Bk W1 wr.heap.size 68 #[.string fp, .string fd]) := by rw [← hW1]; exact Bk.new wr _ _
      have HB1 : Hid (Below wr.heap.size wr W1) := by rw [← hW1]; exact (Below.refl _ wr).alloc (Nat.le_refl _) _
      have HC := Lib.hid (cut_any fp W1 (by unfold maxLen; omega))
      have zW1 : wr.heap.size < W1.heap.size := HK1.out.lt
      obtain ⟨x0, x1, _, _⟩ := HK1.out.two
      go_wp2_with fail
      refine HC.out.mono ?_
      rintro e w2 ⟨a, b, mo, rfl, hcr, hb2⟩
      obtain ⟨ha, hbq, hmo⟩ := cutR_eq hcr
      have HA := Lib.hid ha; have HBQ := Lib.hid hbq
      rw [← ha] at hns
      have HK2 := Lib.hid (HK1.out.below hb2 zW1)
      have HB2 : Hid (Below wr.heap.size wr w2) := HB1.out.trans (hb2.mono HB1.out.size)
      have HS2 := Lib.hid (hS.out.below HB2.out)
      have HD2 := Lib.hid (hD.out.below HB2.out (by omega))
      have HBw : Hid (Below w.heap.size w w2) := hBel.out.trans (HB2.out.mono (by omega))
      have zw2 : wr.heap.size < w2.heap.size := Nat.lt_of_lt_of_le zW1 hb2.size
      obtain ⟨x0, x1, _, _⟩ := HK2.out.two
      clear hcr ha hbq hb2 HC hW1 HK1 HB1 hS hD
      cases mo with
      | false =>
        have HDN : Hid (deN fp = false) := hmo.symm
        have HAF : Hid (a = fp) := by show _ = _; rw [HA.out, cut_flat HDN.out]
        have hsm : a.size ≤ maxLen := by unfold maxLen; omega
        clear hmo
        go_wp2_with (at_mapUpdate; refine halt_ ?_)
        refine unhalt ?_
        refine wpList_put_rm rfl _ _ _ 124 rfl 9 68 Tryz.underlying9 Tryz.underlying124 (w.heap.size + 2) j gf rfl HS2.out.f (by unfold maxLen; omega) a hsm _ rfl rfl ?_
        intro w3 hM3 hg3
        rw [HAF.out] at hM3
        have HS3 : Hid (StM w3 (w.heap.size + 1) (w.heap.size + 2) (w.heap.size + 3) (j + 1) gb (upd gf fp (fileV (fp, fd))) (l.take j ++ [(fp, fd)])) := HS2.out.file (f := (fp, fd)) (by omega) (by omega) HDN.out HND.out hM3 hg3
        have HD3 := Lib.hid (HD2.out.grown hg3 (fun e => by have := Option.some.inj e; omega))
        have HB3 : Hid (Below w.heap.size w w3) := HBw.out.grown hg3 (by omega) (fun k e => by cases e; omega)
        have z3 := hg3.size
        clear hM3 hg3 HS2 HD2
        go_wp2_with fail
        go_roundw
        case rel => exact ⟨j + 1, gb, _, hlt, by go_num, by rw [HTK.out]; exact HS3.out, HD3.out, HB3.out, by omega⟩
        case measure => simp [intOf]; omega
      | true =>
        have HDN : Hid (deN fp = true) := hmo.symm
        have hsm : a.size ≤ maxLen := by unfold maxLen; omega
        clear hmo
        have hlk : (Instr.lookup 123 (.map (some (w.heap.size + 1))) (.string a) false).run Tryz.prog w2 = .ok ((gb a).getD nilS) w2 := HS2.out.b.look Tryz.underlying9 Tryz.underlying123 (Tryz.zeroValue24 _) hsm
        obtain ⟨i0, hi, hz0, hz1, hz2⟩ := info_parts infoFile
        have Hi := Lib.hid hi; have Hz0 := Lib.hid hz0; have Hz1 := Lib.hid hz1; have Hz2 := Lib.hid hz2
        clear hi hz0 hz1 hz2
        have HIL : Hid ((inD (l.take j) a).length ≤ 200) := by have := inD_len (l.take j) a; have h2 := HOL.out.few; rw [List.length_take] at this; show _ ≤ _; omega
        go_wp2_with (at_builtin; refine halt_ ?_)
        refine unhalt ?_
        refine wpList_append_lies _ rfl (.tmp 42) (.tmp 47) 24 rfl (w.heap.size + 3) 68 i0 _ 2 32 Tryz.underlying24 Hi.out Hz0.out Hz1.out Hz2.out rfl (by decide) ((gb a).getD nilS) (inD (l.take j) a).length (flat flC (inD (l.take j) a)) rfl ?own _ 1 _ [.string b, .string fd] rfl rfl ?nw (by simp [Value.oneCell']) (by decide) ?l1 ?l2 ?l3 _ rfl ?_
        case own => exact (HS2.out.alloc _).rows.own a
        case nw => exact new_file w2 b fd
        case l1 => have := HIL.out; unfold maxLen; omega
        case l2 => have := HIL.out; omega
        case l3 => simp; omega
        intro g cap w4 ho hg hat hgl
        have HO := Lib.hid ho; have HG := Lib.hid hg; have HAT := Lib.hid hat
        have hrow : Hid (∀ k, ((gb a).getD nilS).ownBlock = some k → w.heap.size + 3 ≤ k) := fun k e => ((HS2.out.rows.own a).lt k e).1
        have hz4 := hg.size
        rw [World.size_alloc] at hz4
        clear ho hg hat hgl hlk
        go_wp2_with (at_mapUpdate; refine halt_ ?_)
        refine unhalt ?_
        refine wpList_put_rm rfl _ _ _ 123 rfl 9 24 Tryz.underlying9 Tryz.underlying123 (w.heap.size + 1) j gb rfl ((HS2.out.alloc _).b.kept HG.out (fun e => by have := hrow.out _ e.symm; omega)) (by unfold maxLen; omega) a hsm _ rfl rfl ?_
        intro w5 hM5 hg5
        have HS5 : Hid (StM w5 (w.heap.size + 1) (w.heap.size + 2) (w.heap.size + 3) (j + 1) (upd gb (fsN fp) (.slice (some ⟨g, 0, none⟩) ((inD (l.take j) (fsN fp)).length + 1) cap)) gf (l.take j ++ [(fp, fd)])) := by
          have h1 := HO.out; have h2 := HG.out; have h3 := HAT.out
          have h4 : Rm w5 Tryz.prog 9 (w.heap.size + 1) (j + 1) (upd gb a (.slice (some ⟨g, 0, none⟩) ((inD (l.take j) a).length + 1) cap)) := hM5
          rw [HA.out] at h1 h2 h3 h4
          rw [HBQ.out] at h1
          exact (HS2.out.alloc _).dir (f := (fp, fd)) (by omega) HDN.out HND.out h1 h2 h3 h4 hg5
        have HB5 : Hid (Below w.heap.size w w5) := ((HBw.out.alloc (by omega) _).grown HG.out (by simp; omega) (fun k e => by have := hrow.out _ e; omega)).grown hg5 (by omega) (fun k e => by cases e; omega)
        have HD5 := Lib.hid (((HD2.out.alloc _).grown HG.out (fun e => by have := hrow.out _ e.symm; omega)).grown hg5 (fun e => by have := Option.some.inj e; omega))
        have hz5 : w.heap.size + 3 ≤ w5.heap.size := by have := hg5.size; omega
        clear hM5 hg5 HO HG HAT HS2 HD2 hrow
        go_wp2_with fail
        go_roundw
        case rel => exact ⟨j + 1, _, gf, hlt, by go_num, by rw [HTK.out]; exact HS5.out, HD5.out, HB5.out, hz5⟩
        case measure => simp [intOf]; omega
    · have hlz : ¬ (j : Int) < (m : Int) := by omega
      have hjm : j = m := by omega
      have HS1 : Hid (StM wr (w.heap.size + 1) (w.heap.size + 2) (w.heap.size + 3) m gb gf l) := by
        have := hS.out
        rw [hjm, List.take_of_length_le (by rw [HLL.out]; exact Nat.le_refl _)] at this
        exact this
      obtain ⟨wo, hwo⟩ : ∃ wo, wo = wr := ⟨_, rfl⟩
      subst hwo
      obtain ⟨W3, hW3⟩ : ∃ W, wo.alloc (.cells #[.map (some (w.heap.size + 2))] 124) = W := ⟨_, rfl⟩
      have HK3 : Hid (Bk W3 wo.heap.size 124 #[.map (some (w.heap.size + 2))]) := by rw [← hW3]; exact Bk.new wo _ _
      have HB3 : Hid (Below wo.heap.size wo W3) := by rw [← hW3]; exact (Below.refl _ wo).alloc (Nat.le_refl _) _
      have HC3 := Lib.hid (collF_any wo.heap.size (w.heap.size + 2) m gf W3 (HS1.out.f.below HB3.out HS1.out.f.lt) (HK3.out.cell 0) HK3.out.lt (by omega))
      have HKF := Lib.hid (keysF_any (w.heap.size + 2) wo)
      have z3 : wo.heap.size + 1 = W3.heap.size := by rw [← hW3]; simp
      rw [hW3] at HKF
      clear hS hW3
      go_wp2_with fail
      refine HKF.out.mono ?_
      rintro e w' ⟨rfl, hw'⟩
      have hw2 := hw'.symm
      clear hw'
      subst hw2
      go_wp2_with fail
      refine HC3.out.mono ?_
      rintro e w4 ⟨A4, c4, ks, rfl, hk4, hr4, hb4⟩
      have HK4 := Lib.hid hk4; have HR4 := Lib.hid hr4; have HB4 := Lib.hid hb4
      have HBo4 : Hid (Below wo.heap.size wo w4) := HB3.out.trans (hb4.mono HB3.out.size)
      have z4 : W3.heap.size ≤ w4.heap.size := hb4.size
      clear hk4 hr4 hb4 HC3 HKF
      obtain ⟨W5, hW5⟩ : ∃ W, w4.alloc (.cells #[.map (some (w.heap.size + 1))] 123) = W := ⟨_, rfl⟩
      have HK5 : Hid (Bk W5 w4.heap.size 123 #[.map (some (w.heap.size + 1))]) := by rw [← hW5]; exact Bk.new w4 _ _
      have HB5 : Hid (Below w4.heap.size w4 W5) := by rw [← hW5]; exact (Below.refl _ w4).alloc (Nat.le_refl _) _
      have HBo5 : Hid (Below wo.heap.size wo W5) := HBo4.out.trans (HB5.out.mono HBo4.out.size)
      have HR5 : Hid (W5.ownsRow W3.heap.size 9 1 (.slice A4 ks.length c4) ks.length (strs ks)) := by
        rw [← hW5]
        exact HR4.out.kept (World.grownBy_alloc w4 _ none) (by cases hv : (Value.slice A4 ks.length c4).ownBlock with | none => exact .inl rfl | some k => exact .inr (by simp))
      have HC5 := Lib.hid (apsB_any w4.heap.size (w.heap.size + 1) m gb A4 ks.length c4 ks W3 W5 (HS1.out.b.below HBo5.out HS1.out.b.lt) (HK5.out.cell 0) HK5.out.lt HR5.out (HB4.out.trans (HB5.out.mono z4)) (by have := HK4.out.few; omega))
      have HKB := Lib.hid (keysB_any (w.heap.size + 1) w4)
      rw [hW5] at HKB
      clear hW5
      go_wp2_with fail
      refine HKB.out.mono ?_
      rintro e w' ⟨rfl, hw'⟩
      have hw2 := hw'.symm
      clear hw'
      subst hw2
      go_wp2_with fail
      refine HC5.out.mono ?_
      rintro e w6 ⟨A6, c6, qs, rfl, hq6, hr6, hb6⟩
      have HNE := Lib.hid (names_eq HOL.out HS1.out.gbs HS1.out.gfs HK4.out hq6)
      have hnl : ks.length + qs.length ≤ 400 := by have := HK4.out.few; have := hq6.few; omega
      have HSO := Lib.hid (sort_any W3.heap.size (ks.length + qs.length) c6 A6 (ks ++ qs) w6 hr6 (by omega))
      have HB6 := Lib.hid hb6
      have HRG : Hid (∀ k, (Value.slice A6 (ks.length + qs.length) c6).ownBlock = some k → W3.heap.size ≤ k) := fun k hk => (own_row hr6 hk).1
      clear hr6 hq6 hb6 HC5 HKB HK4 HR4 HR5
      go_wp2_with fail
      refine HSO.out.mono ?_
      rintro e w7 ⟨rfl, hs7, hg7⟩
      have HB7 : Hid (Below W3.heap.size W3 w7) := HB6.out.grown hg7 HB6.out.size (fun k e => HRG.out k e)
      have HS7 : Hid (Sl w7 w7.heap.size 1 A6 (ks.length + qs.length) (strs (nmsP l))) := by
        have := Sl.of_own hs7
        rw [HNE.out.1] at this
        exact this
      have HBo7 : Hid (Below wo.heap.size wo w7) := HB3.out.trans (HB7.out.mono HB3.out.size)
      have HSM7 := Lib.hid (HS1.out.below HBo7.out)
      have HD7 := Lib.hid (hD.out.below HBo7.out (by omega))
      have HBw7 : Hid (Below w.heap.size w w7) := hBel.out.trans (HBo7.out.mono (by omega))
      obtain ⟨nn, hnn⟩ : ∃ nn, ks.length + qs.length = nn := ⟨_, rfl⟩
      rw [hnn] at HS7 hnl
      have HNL : Hid ((nmsP l).length = nn) := by have := HS7.out.1; rw [strs_len] at this; show _ = _; omega
      have z7 : w.heap.size + 3 ≤ w7.heap.size := by have := HBo7.out.size; omega
      clear hs7 hg7 HRG HB6 HSO HB7 HBo7 HS1 hD hBel HB3 HK3 HB4 HBo4 HK5 HB5 HBo5
      obtain ⟨W8, hW8⟩ : ∃ W, w7.alloc (.cells #[.int .i64 2, .string ⟨#[]⟩, .slice none 0 0, .int .u64 0, .int .u64 0, .slice none 0 0, .string ⟨#[]⟩, .int .i64 0, .string ⟨#[]⟩] 82) = W := ⟨_, rfl⟩
      have HW8 := Lib.hid hW8
      clear hW8
      go_wp2_with fail
      have HO8 : Hid (Bk W8 w7.heap.size 82 #[.int .i64 2, .string ⟨#[]⟩, .slice none 0 0, .int .u64 0, .int .u64 0, .slice none 0 0, .string ⟨#[]⟩, .int .i64 0, .string ⟨#[]⟩]) := by rw [← HW8.out]; exact Bk.new w7 _ _
      have HB8 : Hid (Below w7.heap.size w7 W8) := by rw [← HW8.out]; exact (Below.refl _ w7).alloc (Nat.le_refl _) _
      have z8 : w7.heap.size + 1 = W8.heap.size := by rw [← HW8.out]; simp
      rw [HW8.out]
      clear HW8
      obtain ⟨i0, hi, hz0, hz1, hz2⟩ := info_parts infoEnt
      have Hi := Lib.hid hi; have Hz0 := Lib.hid hz0; have Hz1 := Lib.hid hz1; have Hz2 := Lib.hid hz2
      clear hi hz0 hz1 hz2
      go_loopw [0, 65] (fun pv i wr => ∃ (j : Nat) (q : List Itm) (es : List Ent) (Aq : Option Addr) (cq : Nat) (EA : Option Addr) (ec : Nat), pv = .slice Aq q.length cq ∧ i = .int .i64 (j : Int) ∧ j ≤ nn ∧ Hid (StoAt k l p j q es) ∧ Hid (Ply wr w.heap.size A c p Aq cq q) ∧ q.length ≤ cq ∧ cq ≤ maxLen ∧
        Hid (Apd wr (w7.heap.size + 1) 102 4 EA j ec (flat enC es)) ∧ j ≤ ec ∧ ec ≤ maxLen ∧ Hid (Bk wr w7.heap.size 82 #[.int .i64 2, .string ⟨#[]⟩, .slice EA j ec, .int .u64 0, .int .u64 0, .slice none 0 0, .string ⟨#[]⟩, .int .i64 0, .string ⟨#[]⟩]) ∧ Hid (Below w7.heap.size w7 wr) ∧ w7.heap.size + 1 ≤ wr.heap.size) (fun _ i _ => nn - (intOf i).toNat)
      case atStart => exact ⟨0, p, [], A, c, none, 0, by rw [HPL.out], rfl, Nat.zero_le _, StoAt.start HPO.out, .inl ⟨rfl, rfl, rfl⟩, by rw [HPL.out]; exact HNC.out, HCM.out, .inr ⟨rfl, rfl, rfl⟩, Nat.le_refl _, Nat.zero_le _, HO8.out, HB8.out, by omega⟩
      case round =>
        clear HO8 HB8
        obtain ⟨j, q, es, Aq, cq, EA, ec, rfl, rfl, hj, hSt, hPly, hqc, hcq, hAp, hje, hec, hOB, hBel, hwz⟩ := hrel
        by_cases hlt : j < nn
        · have hlz : (j : Int) < (nn : Int) := by omega
          obtain ⟨nb, noff, x, rfl, hnb, hx, y0⟩ := (HS7.out.below hBel.out (Nat.le_refl _)).str_at hlt
          have HX := Lib.hid hx
          have hxn := (name_len (nm_ok HOL.out hx)).2
          have hxd := HNE.out.2 x (List.mem_of_getElem? hx)
          clear hx
          obtain ⟨We, hWe⟩ : ∃ W, wr.alloc (.cells #[.string x, .bool false, .int .u64 0, .int .u64 0] 102) = W := ⟨_, rfl⟩
          have HEe : Hid (Bk We wr.heap.size 102 #[.string x, .bool false, .int .u64 0, .int .u64 0]) := by rw [← hWe]; exact Bk.new wr _ _
          have HBe : Hid (Below wr.heap.size wr We) := by rw [← hWe]; exact (Below.refl _ wr).alloc (Nat.le_refl _) _
          have ze : wr.heap.size + 1 = We.heap.size := by rw [← hWe]; simp
          have HSMe := Lib.hid (HSM7.out.below (hBel.out.trans (HBe.out.mono (by omega))))
          have hsm : x.size ≤ maxLen := by unfold maxLen; omega
          have hlk : (Instr.lookup 124 (.map (some (w.heap.size + 1 + 1))) (.string x) true).run Tryz.prog (wr.alloc (.cells #[.string x, .bool false, .int .u64 0, .int .u64 0] 102)) = .ok (.tuple #[(gf x).getD (.agg #[.string ⟨#[]⟩, .string ⟨#[]⟩]), .bool (gf x).isSome]) (wr.alloc (.cells #[.string x, .bool false, .int .u64 0, .int .u64 0] 102)) := by
            rw [hWe]
            exact HSMe.out.f.look_ok Tryz.underlying9 Tryz.underlying124 (Tryz.zeroValue68 _) hsm
          have hgf := HSMe.out.gfs x
          rw [hxd] at hgf
          have HPLN : Hid (q.length ≤ 800000) := by have h1 := hSt.out.plen; have h2 := HSZ.out; rw [← HPL.out] at h2; show _ ≤ _; omega
          have HPC0 := Lib.hid hPly
          have HWe := Lib.hid hWe
          clear hWe
          cases hlf : lookF9 l x with
          | some s =>
            have HLF := Lib.hid hlf
            rw [hlf] at hgf
            simp only [Bool.false_eq_true, if_false, Option.map_some] at hgf
            rw [hgf] at hlk
            simp only [Option.getD_some, Option.isSome_some, fileV] at hlk
            clear hgf hlf
            have hsd := HOL.out.data _ ((look9_some HOL.out.nod).1 HLF.out)
            simp only at hsd
            obtain ⟨W9, hW9⟩ : ∃ W, We.alloc (.cells #[.string x, .string s] 68) = W := ⟨_, rfl⟩
            have HE9 : Hid (Bk W9 wr.heap.size 102 #[.string x, .bool false, .int .u64 0, .int .u64 0]) := by rw [← hW9]; exact HEe.out.alloc _
            have HB9 : Hid (Below wr.heap.size wr W9) := by rw [← hW9]; exact HBe.out.alloc HBe.out.size _
            have HF9 : Hid (Bk W9 We.heap.size 68 #[.string x, .string s]) := by rw [← hW9]; exact Bk.new We _ _
            have z9 : We.heap.size + 1 = W9.heap.size := by rw [← hW9]; simp
            have HW9 := Lib.hid hW9
            have HBL := Lib.hid (blob_any s W9)
            clear hW9
            go_wp2_with fail
            rw [HWe.out, HW9.out]
            refine HBL.out.mono ?_
            rintro e w10 ⟨rfl, hb10⟩
            have HE10 := Lib.hid (HE9.out.below hb10 (by omega))
            have HB10 : Hid (Below wr.heap.size wr w10) := HB9.out.trans (hb10.mono HB9.out.size)
            have z10 : W9.heap.size ≤ w10.heap.size := hb10.size
            clear hb10 HBL HE9 HB9 HF9 HW9 HWe HEe HBe
            obtain ⟨⟨d1, d2⟩, hdd⟩ : ∃ d, dgO (blobO s) = d := ⟨_, rfl⟩
            have HPC := Lib.hid (pput_any Aq q.length cq w10.heap.size q (blobO s) zOs w10 (HPQ.out _ _ _ _ (hPly.out.below HB10.out) (HBw7.out.trans ((hBel.out.mono (by omega)).trans (HB10.out.mono (by omega))))) (obM_zero _ _ _) (Nat.le_refl _) hqc hcq (by have := HPLN.out; omega) hSt.out.ok.asc (okO_blob hsd))
            unfold PuE at HPC
            rw [hdd] at HPC
            simp only [digV, ← blobC_eq] at HPC
            have HDD := Lib.hid hdd
            clear hdd
            go_wp2_with fail
            refine HPC.out.mono ?_
            rintro e w11 ⟨hq, hb11⟩
            have HE11 := Lib.hid (HE10.out.below hb11 (by omega))
            have HB11 : Hid (Below wr.heap.size wr w11) := HB10.out.trans (hb11.mono HB10.out.size)
            have z11 : w10.heap.size ≤ w11.heap.size := hb11.size
            clear hb11 HE10 HB10
            rcases hq with ⟨q2, A2, c2, hz, rfl, hs11, hc2, hm2', hy⟩ | ⟨hz, rfl⟩
            · have HZ := Lib.hid hz; have HY := Lib.hid hy
              have HST := Lib.hid ((by have h9 := hSt.out.file HOL.out HX.out HLF.out HZ.out; rw [HDD.out] at h9; exact h9 : StoAt k l p (j + 1) q2 (es ++ [⟨x, false, (d1, d2)⟩])))
              clear hz hy hs11 HPC
              obtain ⟨W12, hW12⟩ : ∃ W, (w11.setCell ⟨wr.heap.size, 2, none⟩ (.int .u64 d1)).setCell ⟨wr.heap.size, 3, none⟩ (.int .u64 d2) = W := ⟨_, rfl⟩
              have HE12 : Hid (Bk W12 wr.heap.size 102 #[.string x, .bool false, .int .u64 d1, .int .u64 d2]) := by rw [← hW12]; exact (HE11.out.set 2 (.int .u64 d1)).set 3 (.int .u64 d2)
              have HB12 : Hid (Below wr.heap.size wr W12) := by rw [← hW12]; exact (HB11.out.setCell (p := ⟨wr.heap.size, 2, none⟩) (Nat.le_refl _) _).setCell (p := ⟨wr.heap.size, 3, none⟩) (Nat.le_refl _) _
              have HY12 : Hid (Ply W12 w.heap.size A c p A2 c2 q2) := by
                rw [← hW12]
                exact ((hPly.out.trans HB11.out HY.out (by omega)).box HE11.out (by decide) 2 _).box (HE11.out.set 2 (.int .u64 d1)) (by decide) 3 _
              have z12 : wr.heap.size < W12.heap.size := by rw [← hW12]; simp; omega
              have HO12 := Lib.hid (hOB.out.below HB12.out (by omega))
              have HA12 := Lib.hid (hAp.out.below HB12.out)
              have f2 := HE11.out.free 2; have f3 := HE11.out.free 3
              have u2 := HE11.out.cell 2; have u3 := HE11.out.cell 3
              simp at u2 u3
              obtain ⟨v0, v1, v2, v3⟩ := HE12.out.four
              obtain ⟨o0, o1, o2, o3, o4, o5, o6, o7, o8⟩ := HO12.out.nine
              go_wp2_with (at_builtin; refine halt_ ?_)
              refine unhalt ?_
              refine wpList_append_apd (base := w7.heap.size + 1) (size := 4) _ rfl (.tmp 104) (.tmp 106) 79 rfl 102 i0 _ 40 Tryz.underlying79 Hi.out Hz0.out Hz1.out Hz2.out rfl (by decide) EA j ec (flat enC es) rfl ?own_1 (W12.heap.size + 1) _ 1 _ (enC ⟨x, false, (d1, d2)⟩) rfl ?nw_1 (by simp [enC, Value.oneCell']) ?m1_1 ?m2_1 ?m3_1 ?_
              case own_1 => exact HA12.out.below ((Below.refl _ W12).alloc (Nat.le_refl _) _)
              case nw_1 =>
                have := Sl.of_bk (n := 1) (size := 4) (Bk.new W12 102 #[.string x, .bool false, .int .u64 d1, .int .u64 d2]) rfl
                rw [World.size_alloc] at this; exact this
              case m1_1 => unfold maxLen; omega
              case m2_1 => omega
              case m3_1 => simp; omega
              intro A4 c4 w13 ha4 hb4 hn4 hm4 hok4
              have HA13 : Hid (Apd w13 (w7.heap.size + 1) 102 4 A4 (j + 1) c4 (flat enC (es ++ [⟨x, false, (d1, d2)⟩]))) := by
                show Apd _ _ _ _ _ _ _ _
                rw [flat_append]
                simpa [flat] using ha4
              have HB13 : Hid (Below (w7.heap.size + 1) W12 w13) := ((Below.refl (w7.heap.size + 1) W12).alloc (by omega) _).trans hb4
              have HO13 := Lib.hid (HO12.out.below HB13.out (Nat.lt_succ_self _))
              have HY13 := Lib.hid ((HY12.out.below ((Below.refl _ W12).alloc (Nat.le_refl _) (.cells #[.string x, .bool false, .int .u64 d1, .int .u64 d2] 102))).others hok4 (by decide))
              have HBB : Hid (Below w7.heap.size w7 w13) := hBel.out.trans ((HB12.out.mono (by omega)).trans (HB13.out.mono (by omega)))
              have hz13 : w7.heap.size + 1 ≤ w13.heap.size := by have := HB13.out.size; omega
              clear ha4 hb4 hok4 o0 o1 o2 o3 o4 o5 o6 o7 o8 v0 v1 v2 v3 u2 u3 f2 f3 hW12 HE11 HB11 HA12 HO12
              obtain ⟨o0, o1, o2, o3, o4, o5, o6, o7, o8⟩ := HO13.out.nine
              have g2 := HO13.out.free 2
              go_wp2_with fail
              go_roundw
              case rel => exact ⟨j + 1, q2, _, A2, c2, A4, c4, by go_num, by go_num, hlt, HST.out, HY13.out.box HO13.out (by decide) 2 _, hc2, hm2', HA13.out.setCell (a := ⟨w7.heap.size, 2, none⟩) (Nat.lt_succ_self _) _, hn4, hm4, HO13.out.set 2 (.slice A4 (j + 1) c4), HBB.out.setCell (p := ⟨w7.heap.size, 2, none⟩) (Nat.le_refl _) _, by simpa using hz13⟩
              case measure => simp [intOf]; omega
            · have HN : Hid (sto (k + 1) p l = none) := hSt.out.filex HX.out HLF.out hz
              have HDx := Lib.hid (HD7.out.below (hBel.out.trans (HB11.out.mono (by omega))) (by omega))
              have HBx : Hid (Below w.heap.size w w11) := HBw7.out.trans ((hBel.out.trans (HB11.out.mono (by omega))).mono (by omega))
              clear hz HPC
              have f2 := HE11.out.free 2; have f3 := HE11.out.free 3
              have u2 := HE11.out.cell 2; have u3 := HE11.out.cell 3
              simp at u2 u3
              obtain ⟨W12, hW12⟩ : ∃ W, (w11.setCell ⟨wr.heap.size, 2, none⟩ (.int .u64 zD.1)).setCell ⟨wr.heap.size, 3, none⟩ (.int .u64 zD.2) = W := ⟨_, rfl⟩
              have HDy : Hid (Bk W12 w.heap.size 30 #[.int .u64 0, .int .u64 0]) := by rw [← hW12]; exact (HDx.out.far (p := ⟨wr.heap.size, 2, none⟩) (by show w.heap.size ≠ wr.heap.size; omega) _).far (p := ⟨wr.heap.size, 3, none⟩) (by show w.heap.size ≠ wr.heap.size; omega) _
              have HBy : Hid (Below w.heap.size w W12) := by rw [← hW12]; exact (HBx.out.setCell (p := ⟨wr.heap.size, 2, none⟩) (by show w.heap.size ≤ wr.heap.size; omega) _).setCell (p := ⟨wr.heap.size, 3, none⟩) (by show w.heap.size ≤ wr.heap.size; omega) _
              obtain ⟨d0', d1', _, _⟩ := HDy.out.two
              have e0 := HDy.out.free 0; have e1 := HDy.out.free 1
              go_wp2_with fail
              refine bodyPost_ret (res_pcp Tryz.results45 rfl rfl (HDy.out.set2 _ _) rfl) rfl ⟨.inr ⟨HN.out, rfl⟩, below_set2 HBy.out (Nat.le_refl _) _ _⟩
          | none =>
            have HLF := Lib.hid hlf
            have HNE2 := Lib.hid (dir_ne (List.mem_of_getElem? HX.out) hlf)
            rw [hlf] at hgf
            simp only [Bool.false_eq_true, if_false, Option.map_none] at hgf
            rw [hgf] at hlk
            simp only [Option.getD_none, Option.isSome_none] at hlk
            clear hgf hlf
            obtain ⟨W9, hW9⟩ : ∃ W, ((wr.alloc (.cells #[.string x, .bool false, .int .u64 0, .int .u64 0] 102)).alloc (.cells #[.string ⟨#[]⟩, .string ⟨#[]⟩] 68)).setCell ⟨wr.heap.size, 1, none⟩ (.bool true) = W := ⟨_, rfl⟩
            have HEx : Hid (Bk ((wr.alloc (.cells #[.string x, .bool false, .int .u64 0, .int .u64 0] 102)).alloc (.cells #[.string ⟨#[]⟩, .string ⟨#[]⟩] 68)) wr.heap.size 102 #[.string x, .bool false, .int .u64 0, .int .u64 0]) := (Bk.new wr _ _).alloc _
            have HE9 : Hid (Bk W9 wr.heap.size 102 #[.string x, .bool true, .int .u64 0, .int .u64 0]) := by rw [← hW9]; exact HEx.out.set 1 (.bool true)
            have HB9 : Hid (Below wr.heap.size wr W9) := by rw [← hW9]; exact (((Below.refl _ wr).alloc (Nat.le_refl _) _).alloc (by simp) _).setCell (p := ⟨wr.heap.size, 1, none⟩) (Nat.le_refl _) _
            have z9 : wr.heap.size + 2 = W9.heap.size := by rw [← hW9]; simp
            have HSM9 := Lib.hid (HSM7.out.below (hBel.out.trans (HB9.out.mono (by omega))))
            have hlb : (Instr.lookup 123 (.map (some (w.heap.size + 1))) (.string x) false).run Tryz.prog (((wr.alloc (.cells #[.string x, .bool false, .int .u64 0, .int .u64 0] 102)).alloc (.cells #[.string ⟨#[]⟩, .string ⟨#[]⟩] 68)).setCell ⟨wr.heap.size, 1, none⟩ (.bool true)) = .ok ((gb x).getD nilS) (((wr.alloc (.cells #[.string x, .bool false, .int .u64 0, .int .u64 0] 102)).alloc (.cells #[.string ⟨#[]⟩, .string ⟨#[]⟩] 68)).setCell ⟨wr.heap.size, 1, none⟩ (.bool true)) := by
              rw [hW9]
              exact HSM9.out.b.look Tryz.underlying9 Tryz.underlying123 (Tryz.zeroValue24 _) hsm
            have HW9 := Lib.hid hW9
            have y1 := HEx.out.cell 1
            simp at y1
            have f1 := HEx.out.free 1
            clear hW9
            have HOW := Lib.hid (HSM9.out.rows.own x)
            obtain ⟨vb, hvb⟩ : ∃ v, (gb x).getD nilS = v := ⟨_, rfl⟩
            simp only [hvb] at HOW
            have HV : Hid (∃ Ab cb, vb = .slice Ab (inD l x).length cb) := by
              rcases HOW.out.2 with ⟨h1, h2⟩ | ⟨g, cap, cur, h1, _⟩
              · exact ⟨none, 0, by rw [h1, h2]⟩
              · exact ⟨_, _, h1⟩
            obtain ⟨Ab, cb, rfl⟩ := HV.out
            rw [hvb] at hlb
            have HSB := Lib.hid (Sl.of_own HOW.out)
            have HLN : Hid (q.length + wt (inD l x) ≤ 800000) := by
              have h1 := hSt.out.len
              rw [rem_step HX.out] at h1
              have h2 := wt_sub l x
              have h3 := HSZ.out
              rw [← HPL.out] at h3
              show _ ≤ _; omega
            obtain ⟨k', rfl⟩ : ∃ k', k = k' + 1 := by
              obtain ⟨f, hf⟩ := List.exists_mem_of_ne_nil _ HNE2.out
              obtain ⟨g, hg, h1, _, _⟩ := mem_inD.1 hf
              have h3 := (path_rest (HOL.out.path g hg) h1).2
              have h4 := HLK.out g hg
              exact ⟨k - 1, by omega⟩
            have HPC := Lib.hid (IH.out k' rfl (inD l x) (HOL.out.sub x) (fun f hf => by
              obtain ⟨g, hg, h1, h2, rfl⟩ := mem_inD.1 hf
              have h3 := (path_rest (HOL.out.path g hg) h1).2
              have h4 := HLK.out g hg
              simp only
              omega) q Aq q.length cq Ab (inD l x).length cb W9.heap.size W9 (HPQ.out _ _ _ _ (hPly.out.below HB9.out) (HBw7.out.trans ((hBel.out.mono (by omega)).trans (HB9.out.mono (by omega))))) HSB.out (Nat.le_refl _) hqc hcq hSt.out.ok HLN.out)
            unfold StoE at HPC
            simp only [digV] at HPC
            obtain ⟨ib, hib⟩ : ∃ ib, (inD l x).length = ib := ⟨_, rfl⟩
            rw [hib] at hlb HPC
            clear hvb hib HOW
            go_wp2_with fail
            rw [HW9.out]
            refine HPC.out.mono ?_
            rintro e w11 ⟨hq, hb11⟩
            have HE11 := Lib.hid (HE9.out.below hb11 (by omega))
            have HB11 : Hid (Below wr.heap.size wr w11) := HB9.out.trans (hb11.mono HB9.out.size)
            have z11 : W9.heap.size ≤ w11.heap.size := hb11.size
            clear hb11 HE9 HB9 HW9 hlb y1 f1 HEx HWe HEe HBe
            rcases hq with ⟨q2, ⟨d1, d2⟩, A2, c2, hz, hrr, rfl, hs11, hc2, hm2', hy⟩ | ⟨hz, rfl⟩
            · have HZ := Lib.hid hz; have HY := Lib.hid hy
              have HRR := Lib.hid hrr
              clear hrr
              have HST := Lib.hid (hSt.out.dir HOL.out HX.out HLF.out HZ.out HRR.out HNE2.out)
              clear hz hy hs11 HPC
              obtain ⟨W12, hW12⟩ : ∃ W, (w11.setCell ⟨wr.heap.size, 2, none⟩ (.int .u64 d1)).setCell ⟨wr.heap.size, 3, none⟩ (.int .u64 d2) = W := ⟨_, rfl⟩
              have HE12 : Hid (Bk W12 wr.heap.size 102 #[.string x, .bool true, .int .u64 d1, .int .u64 d2]) := by rw [← hW12]; exact (HE11.out.set 2 (.int .u64 d1)).set 3 (.int .u64 d2)
              have HB12 : Hid (Below wr.heap.size wr W12) := by rw [← hW12]; exact (HB11.out.setCell (p := ⟨wr.heap.size, 2, none⟩) (Nat.le_refl _) _).setCell (p := ⟨wr.heap.size, 3, none⟩) (Nat.le_refl _) _
              have HY12 : Hid (Ply W12 w.heap.size A c p A2 c2 q2) := by
                rw [← hW12]
                exact ((hPly.out.trans HB11.out HY.out (by omega)).box HE11.out (by decide) 2 _).box (HE11.out.set 2 (.int .u64 d1)) (by decide) 3 _
              have z12 : wr.heap.size < W12.heap.size := by rw [← hW12]; simp; omega
              have HO12 := Lib.hid (hOB.out.below HB12.out (by omega))
              have HA12 := Lib.hid (hAp.out.below HB12.out)
              have f2 := HE11.out.free 2; have f3 := HE11.out.free 3
              have u2 := HE11.out.cell 2; have u3 := HE11.out.cell 3
              simp at u2 u3
              obtain ⟨v0, v1, v2, v3⟩ := HE12.out.four
              obtain ⟨o0, o1, o2, o3, o4, o5, o6, o7, o8⟩ := HO12.out.nine
              go_wp2_with (at_builtin; refine halt_ ?_)
              refine unhalt ?_
              refine wpList_append_apd (base := w7.heap.size + 1) (size := 4) _ rfl (.tmp 104) (.tmp 106) 79 rfl 102 i0 _ 40 Tryz.underlying79 Hi.out Hz0.out Hz1.out Hz2.out rfl (by decide) EA j ec (flat enC es) rfl ?own_1 (W12.heap.size + 1) _ 1 _ (enC ⟨x, true, (d1, d2)⟩) rfl ?nw_1 (by simp [enC, Value.oneCell']) ?m1_1 ?m2_1 ?m3_1 ?_
              case own_1 => exact HA12.out.below ((Below.refl _ W12).alloc (Nat.le_refl _) _)
              case nw_1 =>
                have := Sl.of_bk (n := 1) (size := 4) (Bk.new W12 102 #[.string x, .bool true, .int .u64 d1, .int .u64 d2]) rfl
                rw [World.size_alloc] at this; exact this
              case m1_1 => unfold maxLen; omega
              case m2_1 => omega
              case m3_1 => simp; omega
              intro A4 c4 w13 ha4 hb4 hn4 hm4 hok4
              have HA13 : Hid (Apd w13 (w7.heap.size + 1) 102 4 A4 (j + 1) c4 (flat enC (es ++ [⟨x, true, (d1, d2)⟩]))) := by
                show Apd _ _ _ _ _ _ _ _
                rw [flat_append]
                simpa [flat] using ha4
              have HB13 : Hid (Below (w7.heap.size + 1) W12 w13) := ((Below.refl (w7.heap.size + 1) W12).alloc (by omega) _).trans hb4
              have HO13 := Lib.hid (HO12.out.below HB13.out (Nat.lt_succ_self _))
              have HY13 := Lib.hid ((HY12.out.below ((Below.refl _ W12).alloc (Nat.le_refl _) (.cells #[.string x, .bool true, .int .u64 d1, .int .u64 d2] 102))).others hok4 (by decide))
              have HBB : Hid (Below w7.heap.size w7 w13) := hBel.out.trans ((HB12.out.mono (by omega)).trans (HB13.out.mono (by omega)))
              have hz13 : w7.heap.size + 1 ≤ w13.heap.size := by have := HB13.out.size; omega
              clear ha4 hb4 hok4 o0 o1 o2 o3 o4 o5 o6 o7 o8 v0 v1 v2 v3 u2 u3 f2 f3 hW12 HE11 HB11 HA12 HO12
              obtain ⟨o0, o1, o2, o3, o4, o5, o6, o7, o8⟩ := HO13.out.nine
              have g2 := HO13.out.free 2
              go_wp2_with fail
              go_roundw
              case rel => exact ⟨j + 1, q2, _, A2, c2, A4, c4, by go_num, by go_num, hlt, HST.out, HY13.out.box HO13.out (by decide) 2 _, hc2, hm2', HA13.out.setCell (a := ⟨w7.heap.size, 2, none⟩) (Nat.lt_succ_self _) _, hn4, hm4, HO13.out.set 2 (.slice A4 (j + 1) c4), HBB.out.setCell (p := ⟨w7.heap.size, 2, none⟩) (Nat.le_refl _) _, by simpa using hz13⟩
              case measure => simp [intOf]; omega
            · have HN : Hid (sto (k' + 1 + 1) p l = none) := hSt.out.dirx HX.out HLF.out hz
              have HDx := Lib.hid (HD7.out.below (hBel.out.trans (HB11.out.mono (by omega))) (by omega))
              have HBx : Hid (Below w.heap.size w w11) := HBw7.out.trans ((hBel.out.trans (HB11.out.mono (by omega))).mono (by omega))
              clear hz HPC
              have f2 := HE11.out.free 2; have f3 := HE11.out.free 3
              have u2 := HE11.out.cell 2; have u3 := HE11.out.cell 3
              simp at u2 u3
              obtain ⟨W12, hW12⟩ : ∃ W, (w11.setCell ⟨wr.heap.size, 2, none⟩ (.int .u64 zD.1)).setCell ⟨wr.heap.size, 3, none⟩ (.int .u64 zD.2) = W := ⟨_, rfl⟩
              have HDy : Hid (Bk W12 w.heap.size 30 #[.int .u64 0, .int .u64 0]) := by rw [← hW12]; exact (HDx.out.far (p := ⟨wr.heap.size, 2, none⟩) (by show w.heap.size ≠ wr.heap.size; omega) _).far (p := ⟨wr.heap.size, 3, none⟩) (by show w.heap.size ≠ wr.heap.size; omega) _
              have HBy : Hid (Below w.heap.size w W12) := by rw [← hW12]; exact (HBx.out.setCell (p := ⟨wr.heap.size, 2, none⟩) (by show w.heap.size ≤ wr.heap.size; omega) _).setCell (p := ⟨wr.heap.size, 3, none⟩) (by show w.heap.size ≤ wr.heap.size; omega) _
              obtain ⟨d0', d1', _, _⟩ := HDy.out.two
              have e0 := HDy.out.free 0; have e1 := HDy.out.free 1
              go_wp2_with fail
              refine bodyPost_ret (res_pcp Tryz.results45 rfl rfl (HDy.out.set2 _ _) rfl) rfl ⟨.inr ⟨HN.out, rfl⟩, below_set2 HBy.out (Nat.le_refl _) _ _⟩
        · have hlz : ¬ (j : Int) < (nn : Int) := by omega
          have HJN : Hid (j = nn) := by show _ = _; omega
          have HBz : Hid (Below w.heap.size w wr) := HBw7.out.trans (hBel.out.mono (by omega))
          have HDz := Lib.hid (HD7.out.below hBel.out (by omega))
          have HELN : Hid (es.length = j) := hSt.out.elen (by rw [HNL.out]; exact hj)
          have HES := Lib.hid (hSt.out.es HOL.out)
          have HPC := Lib.hid (pput_any Aq q.length cq wr.heap.size q (treeO es) ⟨EA, j, ec, none, 0, 0⟩ wr (HPQ.out _ _ _ _ hPly.out HBz.out) ⟨hAp.out.sl, Sl.nil _ _ _ _, hje, hec, Nat.le_refl _, Nat.zero_le _⟩ (Nat.le_refl _) hqc hcq (by have h1 := hSt.out.plen; have h2 := HSZ.out; rw [← HPL.out] at h2; omega) hSt.out.ok.asc (okO_treeO HES.out))
          unfold PuE at HPC
          obtain ⟨⟨d1, d2⟩, hdd⟩ : ∃ d, dgO (treeO es) = d := ⟨_, rfl⟩
          have HDD := Lib.hid hdd
          rw [hdd] at HPC
          simp only [digV, obV, obC, treeO] at HPC
          clear hdd
          obtain ⟨o0, o1, o2, o3, o4, o5, o6, o7, o8⟩ := hOB.out.nine
          go_wp2_with fail
          refine HPC.out.mono ?_
          rintro e w11 ⟨hq, hb11⟩
          have HB11 : Hid (Below w.heap.size w w11) := HBz.out.trans (hb11.mono HBz.out.size)
          have HD11 := Lib.hid (HDz.out.below hb11 (by omega))
          obtain ⟨t0, t1, _, _⟩ := HD11.out.two
          have e0 := HD11.out.free 0; have e1 := HD11.out.free 1
          have HBW := Lib.hid hb11
          clear hb11 HPC o0 o1 o2 o3 o4 o5 o6 o7 o8
          rcases hq with ⟨q2, A2, c2, hz, rfl, hs11, hc2, hm2', hy⟩ | ⟨hz, rfl⟩
          · have HN : Hid (sto (k + 1) p l = some (q2, (d1, d2))) := by
              have := hSt.out.done (by rw [HNL.out, HJN.out]; exact Nat.le_refl _) hz
              rw [HDD.out] at this; exact this
            have HRR : Hid (StoR p q2 (d1, d2) l) := by
              have := hSt.out.res HOL.out hz
              rw [HDD.out] at this; exact this
            have HY : Hid (Ply w11 w.heap.size A c p A2 c2 q2) := hPly.out.trans HBW.out hy (by have := HBz.out.size; omega)
            have HY2 : Hid (Ply ((w11.setCell ⟨w.heap.size, 0, none⟩ (.int .u64 d1)).setCell ⟨w.heap.size, 1, none⟩ (.int .u64 d2)) w.heap.size A c p A2 c2 q2) := (HY.out.box HD11.out (by decide) 0 _).box (HD11.out.set 0 (.int .u64 d1)) (by decide) 1 _
            clear hz hy hs11
            go_wp2_with fail
            refine bodyPost_ret (res_pcp Tryz.results45 rfl rfl (HD11.out.set2 _ _) rfl) rfl ⟨.inl ⟨q2, (d1, d2), A2, c2, HN.out, HRR.out, rfl, ?_, hc2, hm2', HY2.out⟩, below_set2 HB11.out (Nat.le_refl _) _ _⟩
            exact HPQ.out _ _ _ _ HY2.out (below_set2 HB11.out (Nat.le_refl _) _ _)
          · have HN : Hid (sto (k + 1) p l = none) := hSt.out.donex (by rw [HNL.out, HJN.out]; exact Nat.le_refl _) hz
            clear hz
            go_wp2_with fail
            refine bodyPost_ret (res_pcp Tryz.results45 rfl rfl (HD11.out.set2 _ _) rfl) rfl ⟨.inr ⟨HN.out, rfl⟩, below_set2 HB11.out (Nat.le_refl _) _ _⟩
theorem store_all : ∀ k, StoC k := by
  intro k
  induction k with
  | zero => exact store_core 0 (fun k' h => by omega)
  | succ k ih => exact store_core (k + 1) (fun k' h => by obtain rfl : k' = k := (by omega); exact ih)
end Go.Proofs.YtmdhlkkekidknaaGreatDoor

namespace Go.Proofs.YtmdhlkkekidknaaGreatDoor
open Go.RowKit Go.Maps Go.Sort Go.Shelf
attribute [local go_sem] Oper.semAt_some

theorem collG_any (gf : Nat) (lb : Array Value) (eg : ∀ args w, (callFunc gf args).run Tryz.prog w = .ok (.enter gf args) w) (S Sp : List (List UInt8) → Prop) (N : Nat) (w : World) (hn : N ≤ 1000000) (hseq : SeqStops Fence.wide 5 Tryz.prog gf lb encStr S Sp N w) :
    Calls Tryz.prog 88 #[.func (.func gf) #[] lb] w fun e w' =>
      ∃ A c ss, e = .returned (.slice A ss.length c) ∧ S ss ∧ w'.ownsRow w.heap.size 9 1 (.slice A ss.length c) ss.length (strs (ss.map ub)) ∧ Below w.heap.size w w' := by
  have HA := Lib.hid (appSeq_any gf lb eg S Sp N none 0 0 [] w w (World.ownsRow_nil _ _ _ _) (Below.refl _ _) (by omega) hseq)
  clear hseq
  go_enter Tryz.func88, Tryz.ntmps88
  go_wp2_with (go_at_call 90; refine HA.out.mono ?_; rintro e w1 ⟨A, c, ss, rfl, h⟩; rw [Nat.zero_add, List.nil_append] at h; have HH := Lib.hid h; clear h)
  go_ret
  exact ⟨A, c, ss, rfl, HH.out⟩
theorem sortedG_any (gf : Nat) (lb : Array Value) (eg : ∀ args w, (callFunc gf args).run Tryz.prog w = .ok (.enter gf args) w) (S Sp : List (List UInt8) → Prop) (N : Nat) (w : World) (hn : N ≤ 1000) (hS : ∀ ss, S ss → ss.length ≤ N) (hseq : SeqStops Fence.wide 5 Tryz.prog gf lb encStr S Sp N w) :
    Calls Tryz.prog 77 #[.func (.func gf) #[] lb] w fun e w' =>
      ∃ A c ss, e = .returned (.slice A ss.length c) ∧ S ss ∧ w'.ownsRow w.heap.size 9 1 (.slice A ss.length c) ss.length (strs (srtB (ss.map ub))) ∧ Below w.heap.size w w' := by
  have HA := Lib.hid (collG_any gf lb eg S Sp N w (by omega) hseq)
  clear hseq
  go_enter Tryz.func77, Tryz.ntmps77
  go_wp2_with fail
  refine HA.out.mono ?_
  rintro e w1 ⟨A, c, ss, rfl, hs, hrow, hb⟩
  have HSS := Lib.hid hs; have HB := Lib.hid hb; have HROW := Lib.hid hrow
  have hl := hS ss hs
  have HS := Lib.hid (sort_any w.heap.size ss.length c A (ss.map ub) w1 hrow (by omega))
  clear hs hb hrow HA
  go_wp2_with fail
  refine HS.out.mono ?_
  rintro e w2 ⟨rfl, h1, h2⟩
  have HB2 : Hid (Below w.heap.size w w2) := HB.out.grown h2 HB.out.size (fun k hk => ownBlock_ge HROW.out k hk)
  have H1 := Lib.hid h1
  clear h1 h2 HS
  go_wp2_with fail
  go_ret
  exact ⟨A, c, ss, rfl, HSS.out, H1.out, HB2.out⟩
def SkE (g : ByteArray → Option Value) (N : Nat) (w : World) (e : Ending) (w' : World) : Prop :=
  ∃ A c ks, e = .returned (.slice A ks.length c) ∧ Asc ks ∧ (∀ x, x ∈ ks ↔ (g x).isSome = true) ∧ ks.length ≤ N ∧ w'.ownsRow w.heap.size 9 1 (.slice A ks.length c) ks.length (strs ks) ∧ Below w.heap.size w w'
theorem sortedK_of {gf : Nat} {lb : Array Value} {g : ByteArray → Option Value} {N : Nat} {w : World} (eg : ∀ args w, (callFunc gf args).run Tryz.prog w = .ok (.enter gf args) w) (hn : N ≤ 1000)
    (h : ∃ S Sp, SeqStops Fence.wide 5 Tryz.prog gf lb encStr S Sp N w ∧ ∀ ss, S ss → KeysR g N (ss.map ub)) : Calls Tryz.prog 77 #[.func (.func gf) #[] lb] w (SkE g N w) := by
  obtain ⟨S, Sp, h1, h2⟩ := h
  refine (sortedG_any gf lb eg S Sp N w hn (fun ss hs => by have := (h2 ss hs).few; rwa [List.length_map] at this) h1).mono ?_
  rintro e w' ⟨A, c, ss, rfl, hs, hr, hb⟩
  have hk := h2 ss hs
  have hl : (srtB (ss.map ub)).length = ss.length := by rw [srtB_len, List.length_map]
  exact ⟨A, c, srtB (ss.map ub), by rw [hl], srtB_asc hk.nod, fun x => by rw [srtB_mem]; exact hk.mem x, by rw [hl]; have := hk.few; rwa [List.length_map] at this, by rw [hl]; exact hr, hb⟩

theorem keysC_any (b : Nat) (w : World) : Calls Tryz.prog 78 #[.map (some b)] w fun e w' => e = .returned (.func (.func 119) #[] #[.pointer (some ⟨w.heap.size, 0, none⟩)]) ∧ w' = w.alloc (.cells #[.map (some b)] 110) := by
  go_enter Tryz.func78, Tryz.ntmps78
  go_wp2_with fail
  go_ret
  exact ⟨rfl, rfl⟩
theorem sortedC_any (Bm b N : Nat) (g : ByteArray → Option Value) (w : World) (hM : Rm w Tryz.prog 9 b N g) (hc : w.cell? ⟨Bm, 0, none⟩ = some (.map (some b))) (hB : Bm < w.heap.size) (hn : N ≤ 1000) :
    Calls Tryz.prog 77 #[.func (.func 119) #[] #[.pointer (some ⟨Bm, 0, none⟩)]] w (SkE g N w) :=
  sortedK_of (enters_of Tryz.func119 (by kernel_rfl) rfl) hn (by
    obtain ⟨D, h1, h2, h3⟩ := hM.keys Tryz.underlying9
    exact ⟨_, _, fun l J Jx W hW hJ hJx hY h0 => AnyZ.keys_stops (ρ := Tryz.keysC_ren) { Tryz.keysC with } Fence.wide 5 trivial rfl (by omega) Bm b N D w hB hc h1 l J Jx W hW hJ hJx (fun pre x W1 hj hl => hY pre x W1 hj (Nat.lt_of_lt_of_le hl h2)) h0, h3⟩)

end Go.Proofs.YtmdhlkkekidknaaGreatDoor

namespace Go.Proofs
open Go.Shelf
def Tryz.sortFil_ren : Go.Shelf.Ren := ⟨fun | 6 => 58 | 15 => 110 | 14 => 109 | 28 => 153 | 29 => 154 | 20 => 145 | 21 => 146 | 22 => 147 | 23 => 148 | 24 => 149 | 25 => 150 | 26 => 151 | 27 => 152 | 46 => 194 | 47 => 195 | 48 => 196 | 49 => 197 | 50 => 198 | 57 => 215 | n => n, fun | 22 => 24 | 24 => 68 | 25 => 90 | 3 => 3 | 39 => 144 | 0 => 0 | 53 => 176 | 55 => 28 | 4 => 4 | 46 => 170 | 45 => 169 | 50 => 71 | 5 => 5 | 9 => 9 | 66 => 212 | 70 => 216 | 76 => 233 | 77 => 234 | n => n, fun | n => n⟩
theorem Tryz.sortFil : Go.Proofs.SlLaysF0.n6 Tryz.prog Tryz.sortFil_ren := {
  mixed := by kernel_rfl
  f6 := ⟨Tryz.f58.name, by decide, Tryz.func58.trans (congrArg some (by kernel_rfl))⟩
  f14 := ⟨Tryz.f109.name, by decide, Tryz.func109.trans (congrArg some (by kernel_rfl))⟩
  f15 := Tryz.func110.trans (congrArg some (by kernel_rfl))
  f20 := ⟨Tryz.f145.name, by decide, Tryz.func145.trans (congrArg some (by kernel_rfl))⟩
  f21 := ⟨Tryz.f146.name, by decide, Tryz.func146.trans (congrArg some (by kernel_rfl))⟩
  f22 := ⟨Tryz.f147.name, by decide, Tryz.func147.trans (congrArg some (by kernel_rfl))⟩
  f23 := ⟨Tryz.f148.name, by decide, Tryz.func148.trans (congrArg some (by kernel_rfl))⟩
  f24 := ⟨Tryz.f149.name, by decide, Tryz.func149.trans (congrArg some (by kernel_rfl))⟩
  f25 := ⟨Tryz.f150.name, by decide, Tryz.func150.trans (congrArg some (by kernel_rfl))⟩
  f26 := ⟨Tryz.f151.name, by decide, Tryz.func151.trans (congrArg some (by kernel_rfl))⟩
  f27 := ⟨Tryz.f152.name, by decide, Tryz.func152.trans (congrArg some (by kernel_rfl))⟩
  f28 := Tryz.func153.trans (congrArg some (by kernel_rfl))
  f29 := Tryz.func154.trans (congrArg some (by kernel_rfl))
  f46 := ⟨Tryz.f194.name, by decide, Tryz.func194.trans (congrArg some (by kernel_rfl))⟩
  f47 := Tryz.func195.trans (congrArg some (by kernel_rfl))
  f48 := Tryz.func196.trans (congrArg some (by kernel_rfl))
  f49 := ⟨Tryz.f197.name, by decide, Tryz.func197.trans (congrArg some (by kernel_rfl))⟩
  f50 := ⟨Tryz.f198.name, by decide, Tryz.func198.trans (congrArg some (by kernel_rfl))⟩
  f57 := ⟨Tryz.f215.name, by decide, Tryz.func215.trans (congrArg some (by kernel_rfl))⟩
  t0 := Tryz.underlying0
  a0 := Tryz.isAgg0
  z0 := Tryz.sizeOf0
  v0 := Tryz.zeroValue0
  t3 := Tryz.underlying3
  a3 := Tryz.isAgg3
  z3 := Tryz.sizeOf3
  v3 := Tryz.zeroValue3
  t4 := Tryz.underlying4
  a4 := Tryz.isAgg4
  z4 := Tryz.sizeOf4
  v4 := Tryz.zeroValue4
  t5 := Tryz.underlying5
  a5 := Tryz.isAgg5
  z5 := Tryz.sizeOf5
  v5 := Tryz.zeroValue5
  t9 := Tryz.underlying9
  a9 := Tryz.isAgg9
  z9 := Tryz.sizeOf9
  v9 := Tryz.zeroValue9
  t22 := Tryz.underlying24
  a22 := Tryz.isAgg24
  z22 := Tryz.sizeOf24
  v22 := Tryz.zeroValue24
  t25 := Tryz.underlying90
  a25 := Tryz.isAgg90
  z25 := Tryz.sizeOf90
  v25 := Tryz.zeroValue90
  t39 := Tryz.underlying144
  a39 := Tryz.isAgg144
  z39 := Tryz.sizeOf144
  v39 := Tryz.zeroValue144
  t45 := Tryz.underlying169
  a45 := Tryz.isAgg169
  z45 := Tryz.sizeOf169
  v45 := Tryz.zeroValue169
  t46 := Tryz.underlying170
  a46 := Tryz.isAgg170
  z46 := Tryz.sizeOf170
  v46 := Tryz.zeroValue170
  t50 := Tryz.underlying71
  a50 := Tryz.isAgg71
  z50 := Tryz.sizeOf71
  v50 := Tryz.zeroValue71
  t53 := Tryz.underlying176
  a53 := Tryz.isAgg176
  z53 := Tryz.sizeOf176
  v53 := Tryz.zeroValue176
  t55 := Tryz.underlying28
  a55 := Tryz.isAgg28
  z55 := Tryz.sizeOf28
  v55 := Tryz.zeroValue28
  t66 := Tryz.underlying212
  a66 := Tryz.isAgg212
  z66 := Tryz.sizeOf212
  v66 := Tryz.zeroValue212
  t70 := Tryz.underlying216
  a70 := Tryz.isAgg216
  z70 := Tryz.sizeOf216
  v70 := Tryz.zeroValue216
  t76 := Tryz.underlying233
  a76 := Tryz.isAgg233
  z76 := Tryz.sizeOf233
  v76 := Tryz.zeroValue233
  t77 := Tryz.underlying234
  a77 := Tryz.isAgg234
  z77 := Tryz.sizeOf234
  v77 := Tryz.zeroValue234 }
end Go.Proofs

namespace Go.Proofs.YtmdhlkkekidknaaGreatDoor
open Go.RowKit Go.Shelf Go.Sort Go.Lib
attribute [local go_sem] Oper.semAt_some

instance : Inhabited Fl := ⟨(⟨#[]⟩, ⟨#[]⟩)⟩
theorem cmp_less : ∀ a b : List UInt8, decide (Lib.compareBytes a b < 0) = Op.bytesLess a b
  | [], [] => rfl
  | [], _ :: _ => rfl
  | _ :: _, [] => rfl
  | a :: x, b :: y => by
    have ih := cmp_less x y
    simp only [Lib.compareBytes, Op.bytesLess]
    by_cases h1 : a < b
    · simp [h1]
    · by_cases h2 : b < a
      · have h3 : (a == b) = false := by rw [beq_eq_false_iff_ne]; rintro rfl; exact h1 h2
        simp [h1, h2, h3]
      · have h3 : a = b := by
          apply UInt8.toNat_inj.1
          rw [UInt8.lt_iff_toNat_lt] at h1 h2
          omega
        subst h3
        rw [← ih]; simp [UInt8.lt_irrefl]
def cfO (x y : Fl) : Int := Lib.compareBytes x.1.data.toList y.1.data.toList
theorem lt_cfO (x y : Fl) : ltOf cfO x y = less x.1 y.1 := cmp_less _ _
theorem swoO : SWO (ltOf cfO) where
  irrefl x := by rw [lt_cfO]; exact lessB_irrefl _
  trans x y z h1 h2 := by rw [lt_cfO] at *; exact lessB_trans h1 h2
  ntrans x y z h1 h2 := by
    rw [lt_cfO] at *
    cases h3 : less x.1 z.1 with
    | false => rfl
    | true =>
      cases h4 : less z.1 y.1 with
      | true => rw [lessB_trans h3 h4] at h1; cases h1
      | false =>
        have := lessB_conn h2 h4
        rw [this] at h1; rw [h1] at h3; cases h3
set_option maxHeartbeats 1000000 in
theorem tload1_any (x y : Fl) (W : World) : Calls Tryz.prog 59 #[.agg (flC x).toArray, .agg (flC y).toArray] W fun e w' => e = .returned (.int .i64 (cfO x y)) ∧ ∃ q os', w' = grow (W.drewN q) os' := by
  have hcon := fun W' => Tryz.strings_Compare x.1 y.1 W'
  obtain ⟨a, a1⟩ := x
  obtain ⟨b, b1⟩ := y
  simp only [cfO, flC] at hcon ⊢
  generalize Lib.compareBytes a.data.toList b.data.toList = r at hcon ⊢
  have HC := Lib.hid hcon
  clear hcon
  go_enter Tryz.func59, Tryz.ntmps59
  go_wp2_with (go_at_call 60; refine (HC.out _).mono ?_; rintro e w' ⟨rfl, rfl⟩)
  go_ret
  exact ⟨rfl, 0, _, by rw [alloc_eq_grow, alloc_eq_grow, grow_grow]; rfl⟩
theorem putCells_takeK (off n : Nat) (d : Array Value) (cur : Array Value) (hd : d.size = n) (ho : off = 0) (hn : n ≤ cur.size) : (putCells id off d cur).toList.take n = d.toList := by
  subst ho hd
  apply List.ext_getElem?
  intro k
  rw [List.getElem?_take]
  by_cases hk : k < d.size
  · have hk2 : k < cur.size := by omega
    rw [if_pos hk]
    simp [putCells, hk, hk2]
  · rw [if_neg hk, List.getElem?_eq_none (by simp; omega)]
theorem flatK_flatF (ts : List Fl) : (flatK flC 2 ts.toArray).toList = flat flC ts := by
  apply List.ext_getElem?
  intro t
  by_cases ht : t < ts.length * 2
  · have hk : t / 2 < ts.length := by omega
    have hx : ts[t / 2]? = some ts[t / 2] := List.getElem?_eq_getElem hk
    have h1 := flat_get flC_len ts (t / 2) (t % 2) _ hx (by omega)
    rw [show t / 2 * 2 + t % 2 = t by omega] at h1
    have h2 : t < (flatK flC 2 ts.toArray).size := by simpa using ht
    rw [h1, Array.getElem?_toList, Array.getElem?_eq_getElem h2]
    have h3 := get_flatK flC 2 ts.toArray t (by simpa using ht)
    rw [getElem!_pos (flatK flC 2 ts.toArray) t h2] at h3
    rw [h3, show ts.toArray[t / 2]! = ts[t / 2] by simp [hk]]
    have h4 : t % 2 < (flC ts[t / 2]).length := by rw [flC_len]; omega
    rw [getElem!_pos (flC ts[t / 2]) (t % 2) h4, List.getElem?_eq_getElem h4]
  · rw [List.getElem?_eq_none (by simp; omega), List.getElem?_eq_none (by rw [flat_len flC_len]; omega)]
def SrtF (ts : List Fl) : Prop := ts.Pairwise (fun a b => less b.1 a.1 = false)
theorem own_lenF {w : World} {base n c : Nat} {A : Option Addr} {e : TypeId} {ts : List Fl} (h : w.ownsRow base e 2 (.slice A n c) n (flat flC ts)) : ts.length = n := by
  have := h.1; rw [flat_len flC_len] at this; omega
set_option maxHeartbeats 1000000 in
theorem sortFil_any (base n c : Nat) (A : Option Addr) (ts : List Fl) (w : World) (h : w.ownsRow base 68 2 (.slice A n c) n (flat flC ts)) (hn : n ≤ 1000000) :
    Calls Tryz.prog 58 #[.slice A n c, .func (.func 59) #[] #[]] w fun e w' => e = .returned (.tuple #[]) ∧ ∃ us, us.Perm ts ∧ SrtF us ∧ w'.ownsRow base 68 2 (.slice A n c) n (flat flC us) ∧ w.grownBy w' (Value.slice A n c).ownBlock := by
  have hl := own_lenF h
  have eg : ∀ args w, (callFunc 59 args).run Tryz.prog w = .ok (.enter 59 args) w := enters_of Tryz.func59 (by kernel_rfl) rfl
  rcases h.2 with ⟨hv, h0⟩ | ⟨g, cap, cur, hv, h1, h2, h3, h4, h5, h6⟩
  · simp only [Value.slice.injEq] at hv
    obtain ⟨rfl, _, rfl⟩ := hv
    subst h0
    obtain rfl : ts = [] := List.eq_nil_of_length_eq_zero hl
    have hc := AnyF.slices_SortFunc_none Tryz.sortFil none 0 (.func (.func 59) #[] #[]) w
    change Calls Tryz.prog 58 _ _ _ at hc
    refine hc.mono ?_
    rintro e w' ⟨rfl, rfl⟩
    exact ⟨rfl, [], .refl _, List.Pairwise.nil, h, rfl, rfl, rfl, Nat.le_refl _, fun _ _ _ => rfl⟩
  · simp only [Value.slice.injEq] at hv
    obtain ⟨rfl, _, rfl⟩ := hv
    have hsz : n * 2 ≤ cur.size := by omega
    have hlt := (Array.getElem?_eq_some_iff.1 h2).1
    have hH : HoldsK flC 2 w g 0 ts.toArray := by
      intro j hj
      have hj' : j < ts.length * 2 := by simpa using hj
      refine ⟨?_, by simp [World.frozen?, h2]⟩
      have h7 : (flat flC ts)[j]? = some ((flatK flC 2 ts.toArray)[j]!) := by
        rw [← flatK_flatF, Array.getElem?_toList, Array.getElem?_eq_getElem (by simpa using hj'), getElem!_pos (flatK flC 2 ts.toArray) j (by simpa using hj')]
      rw [← h6, List.getElem?_take, if_pos (by omega)] at h7
      show w.cell? ⟨g, 0 + j, none⟩ = _
      simp [World.cell?, h2]
      simpa using h7
    have hc := AnyQ.slices_SortFunc Tryz.sortFil 2 Tryz.isAgg68 Tryz.sizeOf68 flC flC_len (fun x v hv => by simp [flC] at hv; rcases hv with rfl | rfl <;> rfl) cfO swoO 59 #[] g 0 c ts.toArray w eg (fun _ _ _ _ x y => tload1_any x y _) hH hlt (by simp; omega)
    change Calls Tryz.prog 58 _ _ _ at hc
    rw [List.size_toArray, hl] at hc
    refine hc.mono ?_
    rintro e w' ⟨rfl, d', k, os, hp, hs, rfl⟩
    have hd : d'.size = n := by rw [hp.1]; simpa using hl
    have hpp : d'.toList.Perm ts := by
      have := hp.2.2
      have e1 : d'.extract 0 n = d' := by rw [← hd]; simp
      have e2 : ts.toArray.extract 0 n = ts.toArray := by rw [← hl]; simp
      rw [e1, e2] at this
      simpa using this
    have hso : SrtF d'.toList := by
      unfold SrtF
      rw [List.pairwise_iff_getElem]
      intro i j hi hj hij
      have hi' : i < d'.size := by simpa using hi
      have hj' : j < d'.size := by simpa using hj
      have := hs i j (Nat.zero_le _) hij (by omega)
      rw [lt_cfO, getElem!_pos d' j hj', getElem!_pos d' i hi'] at this
      simpa using this
    have hfs : (flatK flC 2 d').size = n * 2 := by rw [size_flatK, hd]
    refine ⟨rfl, d'.toList, hpp, hso, ⟨by rw [flat_len flC_len, Array.length_toList, hd], .inr ⟨g, c, putCells id 0 (flatK flC 2 d') cur, rfl, h1, ?_, h3, h4, by simp [putCells]; omega, ?_⟩⟩, rfl, rfl, rfl, by simp [sortWorldK, putRowK, grow, putRow, mapBlock, Sort.ahead], fun b hb hr => ?_⟩
    · simp only [sortWorldK, putRowK, grow, putRow, mapBlock, Sort.ahead]
      rw [Array.getElem?_append_left (by simpa using hlt), Array.getElem?_modify, if_pos rfl, h2]
      rfl
    · rw [putCells_takeK 0 (n * 2) _ cur hfs rfl hsz, ← flatK_flatF]
    · simp only [sortWorldK, putRowK, grow, putRow, mapBlock, Sort.ahead]
      rw [Array.getElem?_append_left (by simpa using hb), Array.getElem?_modify, if_neg (fun e => hr (by rw [e]; rfl))]
end Go.Proofs.YtmdhlkkekidknaaGreatDoor

namespace Go.Proofs.YtmdhlkkekidknaaGreatDoor
open Go.RowKit
variable {F : Fence} {n : Nat} {P : Program}

theorem wpIn_rangeTA {α : Type} {g : Operand} {ps : Array Tmp} {assign body : Code} {Q : Exit → Act → World → Prop} {a : Act} {w : World}
    (hro : F.round = none) (h1 : 1 ≤ n) {gf : Nat} {lb : Array Value} (hg : a.eval g = .func (.func gf) #[] lb) (hFg : F.fn gf) (eg : ∀ args w, (callFunc gf args).run P w = .ok (.enter gf args) w)
    {encs : α → Array Value} {Kp St : World → World → Prop} {Pf S Sp : List α → Prop} {w0 : World} (hseq : SeqT F (n - 1) P gf lb encs Kp St Pf S Sp (w.heap.size + 2) w0)
    (hKt : ∀ {A B C : World}, Kp A B → Kp B C → Kp A C) (hKb : ∀ (W : World) (l : Nat) (r : Loop) (o' : Obj), w.heap.size + 1 = l → W.heap[l]? = some (.loop r) → Kp W (W.putObj l o')) (hSo : ∀ A B, St A B → w.heap.size + 2 ≤ A.heap.size → Rec2 w.heap.size A B) (hb0 : Below w0.heap.size w0 w) (hps : ∀ x, (encs x).size = ps.size)
    (I : List α → World → Prop) (Ix : Code → List α → World → Prop) (hI : OwnFrom w.heap.size I) (hIx : ∀ c, OwnFrom w.heap.size (Ix c)) (hIS : ∀ pre A B, I pre A → St A B → I pre B) (h0 : I [] w) (As : α → Nat → World → Prop) (hAp : ∀ x b W l (r : Loop) (o : Obj), W.heap[l]? = some (.loop r) → As x b W → As x b (W.putObj l o)) (a₁ : α → Nat → Act)
    (hassign : ∀ (l : Nat) (pre : List α) (x : α) (W : World) (K : Act → World → Prop), w.heap.size + 2 ≤ W.heap.size → I pre W → (∀ b W', Rec2 w.heap.size W W' → Kp W W' → I pre W' → As x b W' → K (a₁ x b) W') →
      assign.wpIn (F.inRound l) (n - 1 - 1) P (Exit.then K (fun _ _ _ => False)) { tmps := (ps.zip (encs x)).foldl (fun t (p, v) => t.setIfInBounds p v) a.tmps, defers := [] } W)
    (hbody : ∀ (l : Nat) (pre : List α) (x : α) (b : Nat) (W : World), Pf (pre ++ [x]) → w.heap.size + 2 ≤ W.heap.size → I pre W → As x b W → body.wpIn (F.inRound l) (n - 1 - 1) P (ownPostT w.heap.size Kp I Ix (pre ++ [x]) W) (a₁ x b) W)
    (hdone : ∀ (D : Nat) (xs : List α) (W : World), w.heap.size ≤ D → S xs → I xs W → W.heap[D]? = some (.deferred (some [])) → Q .normal { a with defers := { target := .collected D, args := #[] } :: a.defers } W)
    (hstop : ∀ (D : Nat) (c : Code) (pre : List α) (W : World), w.heap.size ≤ D → Sp pre → Ix c pre W → W.heap[D]? = some (.deferred (some [])) → c.wpIn F n P Q { a with defers := { target := .collected D, args := #[] } :: a.defers } W) :
    (Code.rangeFunc g ps assign body).wpIn F n P Q a w := by
  refine wpIn_rangeFunc ?_
  intro fn hfn
  rw [hro]
  -- the loop's record in block L, the block of its deferred calls in block D
  obtain ⟨D, hD⟩ : ∃ D, w.heap.size = D := ⟨_, rfl⟩
  obtain ⟨rec, hrec⟩ : ∃ rec : LoopState → Option Code → Loop, rec = fun st pe => { state := st, pending := pe, fn, tmps := a.tmps, params := ps, assign, body, defers := D } := ⟨_, rfl⟩
  obtain ⟨W1, hW1⟩ : ∃ W1, (w.alloc (.deferred (some []))).alloc (.loop (rec .ready none)) = W1 := ⟨_, rfl⟩
  have hL1 : W1.heap[D + 1]? = some (.loop (rec .ready none)) := by
    rw [← hW1, ← hD]; have := World.alloc_heap_new (w.alloc (.deferred (some []))) (.loop (rec .ready none)); rwa [World.size_alloc] at this
  have hK1 : W1.heap[D]? = some (.deferred (some [])) := by
    rw [← hW1, ← hD]; exact (Below.heap_alloc _ _ _ (by simp)).trans (World.alloc_heap_new w _)
  have hI1 : I [] W1 := by rw [← hW1]; exact hI.alloc _ (hI.alloc _ h0)
  have hb1 : Below w0.heap.size w0 W1 := by
    rw [← hW1]; exact hb0.trans ((((Below.refl _ w).alloc (Nat.le_refl _) _).alloc (by simp) _).mono hb0.size)
  refine ⟨D + 1, [{ target := .collected D, args := #[] }], W1, { target := .fn (.func gf) lb, args := #[.func (.yield (D + 1)) #[] #[]] }, W1, gf,
    #[.func (.yield (D + 1)) #[] #[]] ++ lb, W1, ?_, ?_, ?_, ?_, fun _ => h1, ?_⟩
  · rw [← hW1, hrec, ← hD]; exact run_enterLoop_outer _ _ _ _ _
  · simp only [resolve, hg]
    simp [go_sem]
  · intro f' hf'; simp [Target.leads] at hf'; subst hf'; exact hFg
  · simp [invoke, go_sem, eg]
  · refine (hseq (D + 1)
      (fun pre W => I pre W ∧ W.heap[D + 1]? = some (.loop (rec .ready none)) ∧ W.heap[D]? = some (.deferred (some [])))
      (fun pre W => ∃ c, Ix c pre W ∧ W.heap[D + 1]? = some (.loop (rec .done (some c))) ∧ W.heap[D]? = some (.deferred (some [])))
      W1 hb1 (by rw [← hW1]; simp)
      (fun pre A B hs hst => by
        have hz2 := (Array.getElem?_eq_some_iff.1 hs.2.1).1
        have hr := hSo A B hst (by omega)
        rw [hD] at hr
        exact ⟨hIS pre A B hs.1 hst, hr.2.trans hs.2.1, hr.1.trans hs.2.2⟩)
      ?_ ⟨hI1, hL1, hK1⟩).mono ?_
    · rintro pre x W hpf ⟨hi, hl, hk⟩
      have hlt : D + 1 < W.heap.size := (Array.getElem?_eq_some_iff.1 hl).1
      have hy := run_yield (P := P) (args := encs x) hl (by rw [hrec]; exact hps x)
      rw [hrec] at hy
      refine ⟨fn, _, assign, body, hy, roundIn_of_wpIn hfn (hassign _ pre x W _ (by omega) hi fun b V hrv hkv hiv hav => ?_)⟩
      rw [hD] at hrv
      have hlv : V.heap[D + 1]? = some (.loop (rec .ready none)) := hrv.2.trans hl
      have hkd : V.heap[D]? = some (.deferred (some [])) := hrv.1.trans hk
      have hltv : D + 1 < V.heap.size := (Array.getElem?_eq_some_iff.1 hlv).1
      refine ⟨_, run_beginRound hlv (by rw [hrec]), ?_⟩
      obtain ⟨W2, hW2⟩ : ∃ W2, V.putObj (D + 1) (.loop { rec .ready none with state := .busy }) = W2 := ⟨_, rfl⟩
      have hl2 : W2.heap[D + 1]? = some (.loop { rec .ready none with state := .busy }) := by rw [← hW2]; exact World.putObj_heap_same hltv
      have hk2 : W2.heap[D]? = some (.deferred (some [])) := by rw [← hW2]; exact (World.putObj_heap_other (by omega)).trans hkd
      have hw2 : Kp W W2 := by rw [← hW2]; exact hKt hkv (hKb _ _ _ _ (by omega) hlv)
      have hi2 : I pre W2 := by rw [← hW2]; exact hI.putObj _ hiv (by omega) hlv rfl
      have ha2 : As x b W2 := by rw [← hW2]; exact hAp _ _ _ _ _ _ hlv hav
      rw [hW2]
      refine wpIn_mono (hbody _ pre x b _ hpf (by have := (Array.getElem?_eq_some_iff.1 hl2).1; omega) hi2 ha2) ?_
      have fin : ∀ (jump : Option Code) (W3 : World), Rec2 w.heap.size W2 W3 →
          (Instr.endRound (D + 1) jump).run P W3 = .ok (.bool jump.isNone) (W3.putObj (D + 1) (.loop (rec (if jump.isNone then .ready else .done) jump))) ∧
          W3.heap[D + 1]? = some (.loop { rec .ready none with state := .busy }) ∧
          (W3.putObj (D + 1) (.loop (rec (if jump.isNone then .ready else .done) jump))).heap[D + 1]? = some (.loop (rec (if jump.isNone then .ready else .done) jump)) ∧
          (W3.putObj (D + 1) (.loop (rec (if jump.isNone then .ready else .done) jump))).heap[D]? = some (.deferred (some [])) := fun jump W3 hk3 => by
        rw [hD] at hk3
        have hl3 := hk3.2.trans hl2
        have := run_endRound (P := P) jump hl3
        rw [hrec] at this ⊢
        exact ⟨this, by rw [hrec] at hl3; exact hl3, World.putObj_heap_same (Array.getElem?_eq_some_iff.1 hl3).1, (World.putObj_heap_other (by omega)).trans (hk3.1.trans hk2)⟩
      rintro e a3 W3 hp
      cases e with
      | normal =>
        obtain ⟨hk3, hkp3, hi3⟩ := hp
        obtain ⟨hr, hl3, hl4, hk4⟩ := fin none W3 hk3
        exact ⟨_, _, hr, .inl ⟨rfl, ⟨hI.putObj _ hi3 (by omega) hl3 rfl, hl4, hk4⟩, hKt (hKt hw2 hkp3) (hKb _ _ _ _ (by omega) hl3)⟩⟩
      | ret =>
        obtain ⟨hk3, hi3⟩ := hp
        obtain ⟨hr, hl3, hl4, hk4⟩ := fin (some .ret) W3 hk3
        exact ⟨_, _, hr, .inr ⟨rfl, .ret, (hIx _).putObj _ hi3 (by omega) hl3 rfl, hl4, hk4⟩⟩
      | exit id =>
        obtain ⟨hk3, hi3⟩ := hp
        obtain ⟨hr, hl3, hl4, hk4⟩ := fin (some (.exit id)) W3 hk3
        exact ⟨_, _, hr, .inr ⟨rfl, .exit id, (hIx _).putObj _ hi3 (by omega) hl3 rfl, hl4, hk4⟩⟩
      | goto t =>
        obtain ⟨hk3, hi3⟩ := hp
        obtain ⟨hr, hl3, hl4, hk4⟩ := fin (some (.goto t)) W3 hk3
        exact ⟨_, _, hr, .inr ⟨rfl, .goto t, (hIx _).putObj _ hi3 (by omega) hl3 rfl, hl4, hk4⟩⟩
      | panic ch => exact hp.elim
      | outgrown => exact hp.elim
    · rintro e W2 ⟨⟨v, rfl⟩, (⟨xs, hS, hi, hl, hk⟩ | ⟨pre, hSp, c, hi, hl, hk⟩)⟩
      · exact ⟨none, _, by have := run_endLoop (P := P) hl (by rw [hrec]; simp); rw [hrec] at this; exact this, hdone _ xs _ (by omega) hS (hI.putObj _ hi (by omega) hl rfl) ((World.putObj_heap_other (by omega)).trans hk)⟩
      · exact ⟨some c, _, by have := run_endLoop (P := P) hl (by rw [hrec]; simp); rw [hrec] at this; exact this, hstop _ c pre _ (by omega) hSp ((hIx c).putObj _ hi (by omega) hl rfl) ((World.putObj_heap_other (by omega)).trans hk)⟩
end Go.Proofs.YtmdhlkkekidknaaGreatDoor

namespace Go.Proofs.YtmdhlkkekidknaaGreatDoor
open Go.RowKit Go.Shelf
attribute [local go_sem] Oper.semAt_some

theorem tall_any (A : Option Addr) (n c : Nat) (d : Dig) (w : World) :
    Calls Tryz.prog 57 #[.slice A n c, digV d] w fun e w' => e = .returned (.func (.func 107) #[] #[.pointer (some ⟨w.heap.size, 0, none⟩), .pointer (some ⟨w.heap.size + 1, 0, none⟩)]) ∧
      w' = (w.alloc (.cells #[.slice A n c] 23)).alloc (.cells #[.int .u64 d.1, .int .u64 d.2] 30) := by
  obtain ⟨d1, d2⟩ := d
  simp only [digV]
  go_enter Tryz.func57, Tryz.ntmps57
  go_wp2_with fail
  go_ret
  exact ⟨rfl, rfl⟩
theorem tall1_st (n B0 hz B np cp b2 b3 : Nat) (A : Option Addr) (p : List Itm) (d : Dig) (w : World) (hp : PlOk p) (h0 : Sl w B 3 A np (flat itC p)) (hB : B ≤ B0) (hB0 : B0 ≤ w.heap.size) (hzw : w.heap.size ≤ hz) (hn : np ≤ 1000000)
    (h2 : Bk w b2 23 #[.slice A np cp]) (h3 : Bk w b3 30 #[.int .u64 d.1, .int .u64 d.2]) :
    SeqT Fence.wide n Tryz.prog 107 #[.pointer (some ⟨b2, 0, none⟩), .pointer (some ⟨b3, 0, none⟩)] vdA (KpV B0 hz) (fun A B => Below A.heap.size A B)
      (fun pre => ∃ t, pre ++ t = vsL (visW p d)) (fun xs => xs = vsL (visW p d)) (fun pre => ∃ t, pre ++ t = vsL (visW p d)) hz w := fun l J Jx W hW hWz hJ hY hJ0 => by
  obtain ⟨d1, d2⟩ := d
  have HV := Lib.hid (visit_all 102 p (d1, d2) ⟨#[]⟩ A np cp B B0 hz l (n - 1) (vsL (visW p (d1, d2))) [] J Jx W hp (h0.below hW (by omega)) hB (by omega) (by omega) hn (by decide) (by decide) ⟨[], by simp [visW]⟩ hJ
    (fun pre x W1 ht hj => hY pre x W1 (by obtain ⟨t, ht⟩ := ht; exact ⟨t, ht⟩) hj) hJ0)
  have HK2 := Lib.hid (h2.below hW h2.lt); have HK3 := Lib.hid (h3.below hW h3.lt)
  simp only [digV] at HV
  have c2 := HK2.out.cell 0
  obtain ⟨x0, x1, _, _⟩ := HK3.out.two
  simp at c2
  clear hp h0 hW hJ hY hJ0 h2 h3
  refine callsIn_of_wp Tryz.func107 rfl trivial ?_ rfl
  simp only [Tryz.ntmps107, List.size_toArray, List.length_cons, List.length_nil, Nat.reduceAdd, Nat.reduceSub, Array.replicate_succ, Array.replicate_zero, List.push_toArray, List.append_toArray, List.nil_append, List.cons_append]
  gi_wp2_with fail
  refine ⟨trivial, (fun h => by cases h), (callsIn_wide.2 HV.out).mono ?_⟩
  rintro e W9 (⟨rfl, hr0, hJ9, _⟩ | ⟨rfl, hq⟩)
  · have HR : Hid (vsL (visW p (d1, d2)) = (vis p 102 (d1, d2) ⟨#[]⟩).1.map vok) := by
      show vsL (vis p 102 (d1, d2) ⟨#[]⟩) = _
      unfold vsL vsT; rw [if_pos hr0, List.append_nil]
    have HJ9 := Lib.hid hJ9
    clear hJ9 hr0 HV
    gi_wp2
    go_end0
    exact ⟨⟨_, rfl⟩, .inl ⟨_, rfl, by rw [HR.out]; exact HJ9.out⟩⟩
  · have HQ := Lib.hid hq
    clear hq HV
    gi_wp2
    go_end0
    refine ⟨⟨_, rfl⟩, ?_⟩
    rcases HQ.out with ⟨q, t, h1, h2⟩ | ⟨_, h2⟩
    · exact .inr ⟨q, ⟨t, h1⟩, h2⟩
    · exact .inl ⟨_, rfl, h2⟩
end Go.Proofs.YtmdhlkkekidknaaGreatDoor
