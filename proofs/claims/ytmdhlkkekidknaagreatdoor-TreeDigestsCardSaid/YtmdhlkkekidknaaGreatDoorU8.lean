/-
  Lemmas: tree.visit. DERIVED: THE SHELF's CONTRACTS AT THIS DUMP, IN PLAIN WORDS (tools/lay-plain.mjs out of 'TryzSff.lean', which tools/lay-shelf.mjs wrote): THE SAME DECLARATIONS UNDER THE SAME NAMES: 'import', 'namespace', 'open', 'def', 'theorem' AND NOTHING ELSE: no command of the shelf's: FOR A HAND-IN. Each laying: the table of numbers ('.._ren') and one theorem, a field a fact of the dump's own or the kernel's comparison; each contract: ONE APPLICATION. An append at a step of a region that draws its order. slices.Grow and slices.Concat on items, and pool.insert. slices.SortFunc of files by their paths, as tree.Load calls it. As in Range3; moreover the code that takes an element may make memory of its own (a variable that is boxed): the world changes ahead of the round. graph.find by dependences, and graph.Deps. A map's keys collected and appended: slices.Collect, slices.AppendSeq over maps.Keys. The two maps of tree.store: what they hold of the files that have been looked at. tree.all, tree.Load.
-/
import Derived.Shelf.SlSortCmp.WholeK
import Derived.Shelf.SlSortCmp.NoneTotal
import Derived.Ground.SlsfProg
import Derived.Ground.NamesProg
import Derived.Test.YtmdhlkkekidknaaGreatDoorProg
import Derived.Deep.QuietTactic
import Derived.BigQuiet
import Derived.Lib.AppendZerosOnto
import Derived.Shelf.SlIter.Stops
import Derived.RegionIn
import Derived.Test.YtmdhlkkekidknaaGreatDoorU7

namespace Go.Proofs.YtmdhlkkekidknaaGreatDoor
open Go.RowKit
attribute [local go_sem] Oper.semAt_some

section
variable {g : Dig → ByteArray → List Fl × Int} {p : List Itm} {pre : ByteArray} {es : List Ent} {fs gs : List Fl} {j : Nat} {e : Ent} {pr0 ALL : List Vd}
theorem vsA_err (h : VisAt g p pre es j fs) (hj : es[j]? = some e) {z : Int} (hz : vsE g p pre (e :: es.drop (j + 1)) = ([], z)) (h0 : z ≠ 0) (ha : ∃ t, pr0 ++ vsL (vsE g p pre es) ++ t = ALL) :
    (∃ t, pr0 ++ fs.map vok ++ [(zF, z)] ++ t = ALL) ∧ (vsE g p pre es).2 ≠ 0 ∧ pr0 ++ fs.map vok ++ [(zF, z)] = pr0 ++ vsL (vsE g p pre es) := by
  have e1 := h.fail hj hz
  rw [List.append_nil] at e1
  rw [e1, vsL_err _ h0] at ha
  rw [e1, vsL_err _ h0]
  obtain ⟨t, ht⟩ := ha
  exact ⟨⟨t, by rw [← ht]; simp⟩, h0, by simp⟩
theorem vsA_file (h : VisAt g p pre es j fs) (hj : es[j]? = some e) (hlt : ¬ 100 < (pre ++ e.nm).size) (hd : e.dir = false) {o : Ob} (hg : getP p e.dg = some o) (hk : o.kind = 1) (ha : ∃ t, pr0 ++ vsL (vsE g p pre es) ++ t = ALL) :
    (∃ t, pr0 ++ fs.map vok ++ [((pre ++ e.nm, o.data), 0)] ++ t = ALL) ∧ VisAt g p pre es (j + 1) (fs ++ [(pre ++ e.nm, o.data)]) := by
  have h1 := h.more hj (gs := [(pre ++ e.nm, o.data)]) (by rw [vsE_file hlt hd hg hk]; rfl)
  refine ⟨?_, h1⟩
  unfold VisAt at h1
  rw [h1] at ha
  obtain ⟨t, ht⟩ := ha
  unfold vsL at ht
  simp only [List.map_append, List.append_assoc] at ht
  exact ⟨_, by simp only [List.append_assoc]; exact ht⟩
theorem vsA_dir (h : VisAt g p pre es j fs) (hj : es[j]? = some e) (hlt : ¬ 100 < (pre ++ e.nm).size) (hd : e.dir = true) (ha : ∃ t, pr0 ++ vsL (vsE g p pre es) ++ t = ALL) :
    (∃ t, pr0 ++ fs.map vok ++ vsL (g e.dg (pre ++ e.nm ++ slB)) ++ t = ALL) ∧ ((g e.dg (pre ++ e.nm ++ slB)).2 = 0 → VisAt g p pre es (j + 1) (fs ++ (g e.dg (pre ++ e.nm ++ slB)).1)) ∧
      ((g e.dg (pre ++ e.nm ++ slB)).2 ≠ 0 → (vsE g p pre es).2 ≠ 0 ∧ pr0 ++ fs.map vok ++ vsL (g e.dg (pre ++ e.nm ++ slB)) = pr0 ++ vsL (vsE g p pre es)) := by
  obtain ⟨⟨s, z⟩, hs⟩ : ∃ r, g e.dg (pre ++ e.nm ++ slB) = r := ⟨_, rfl⟩
  rw [hs]
  by_cases hz : z = 0
  · subst hz
    have h1 := h.more hj (gs := s) (by rw [vsE_dir hlt hd hs])
    refine ⟨?_, fun _ => h1, fun h0 => absurd rfl h0⟩
    unfold VisAt at h1
    rw [h1] at ha
    obtain ⟨t, ht⟩ := ha
    unfold vsL at ht
    simp only [List.map_append, List.append_assoc] at ht
    exact ⟨_, by rw [vsL_ok]; simp only [List.append_assoc]; exact ht⟩
  · have e1 := h.fail hj (vsE_sub hlt hd hz hs)
    refine ⟨?_, fun h0 => absurd h0 hz, fun _ => ?_⟩
    · rw [e1, vsL_err _ hz] at ha
      obtain ⟨t, ht⟩ := ha
      rw [vsL_err _ hz]
      exact ⟨t, by rw [← ht]; simp⟩
    · rw [e1, vsL_err _ hz, vsL_err _ hz]
      exact ⟨hz, by simp⟩
theorem vsA_done (h : VisAt g p pre es j fs) (hj : es.length ≤ j) : (vsE g p pre es).2 = 0 ∧ fs = (vsE g p pre es).1 := by rw [h.done hj]; exact ⟨rfl, rfl⟩
end
theorem ent_ways {g : Dig → ByteArray → List Fl × Int} (p : List Itm) (pre : ByteArray) (e : Ent) (r : List Ent) (hlt : ¬ 100 < (pre ++ e.nm).size) (hd : e.dir = false) :
    (∃ o, getP p e.dg = some o ∧ o.kind = 1 ∧ datP p e.dg = (o.data, 0)) ∨ ((datP p e.dg).2 ≠ 0 ∧ vsE g p pre (e :: r) = ([], (datP p e.dg).2)) := by
  cases hg : getP p e.dg with
  | none => exact .inr ⟨by rw [datP_none hg]; simp, by rw [vsE_none hlt hd hg, datP_none hg]⟩
  | some o =>
    by_cases hk : o.kind = 1
    · exact .inl ⟨o, rfl, hk, datP_some hg hk⟩
    · exact .inr ⟨by rw [datP_kind hg hk]; simp, by rw [vsE_kind hlt hd hg hk, datP_kind hg hk]⟩
theorem str_emp {s : ByteArray} (h : s ≠ ⟨#[]⟩) : s.toList.isEmpty = false := by
  cases h1 : s.toList with
  | nil =>
    rw [ByteArray.toList_eq] at h1
    exact absurd (data_inj (t := ⟨#[]⟩) h1) h
  | cons _ _ => rfl
set_option maxRecDepth 100000 in
set_option maxHeartbeats 16000000 in
theorem visit_core (n : Nat) (ih : VisC n) : VisC (n + 1) := by
  intro p d pr A np cp B B0 hz l m ALL pr0 J Jx W hp h0 hB hB0 hzW hnp hpr hn hall hJ hY hj
  obtain ⟨d1, d2⟩ := d
  have HP := Lib.hid hp; have H0 := Lib.hid h0; have HJ := Lib.hid hJ; have HY := Lib.hid hY; have HALL := Lib.hid hall; have IH := Lib.hid ih
  have HG := Lib.hid (pget_any A np cp B p (d1, d2) ((W.alloc (.cells #[.int .u64 d1, .int .u64 d2] 30)).alloc (.cells #[.func (.yield l) #[] #[]] 140))
    (h0.below (((Below.refl _ W).alloc (Nat.le_refl _) _).alloc (by simp) _) (by omega)) (by simp; omega) hnp hp)
  have HJ1 : Hid (J pr0 ((W.alloc (.cells #[.int .u64 d1, .int .u64 d2] 30)).alloc (.cells #[.func (.yield l) #[] #[]] 140))) := hJ _ _ _ hj (((Below.refl _ W).alloc (Nat.le_refl _) _).alloc (by simp) _)
  obtain ⟨W1, hW1⟩ : ∃ W1, (W.alloc (.cells #[.int .u64 d1, .int .u64 d2] 30)).alloc (.cells #[.func (.yield l) #[] #[]] 140) = W1 := ⟨_, rfl⟩
  have HB1 : Hid (Below W.heap.size W W1) := by rw [← hW1]; exact ((Below.refl _ W).alloc (Nat.le_refl _) _).alloc (by simp) _
  have HKY : Hid (Bk W1 (W.heap.size + 1) 140 #[.func (.yield l) #[] #[]]) := by
    rw [← hW1]
    have := Bk.new (W.alloc (.cells #[.int .u64 d1, .int .u64 d2] 30)) 140 #[.func (.yield l) #[] #[]]
    rw [World.size_alloc] at this; exact this
  have z1 : W.heap.size + 2 = W1.heap.size := by rw [← hW1]; simp
  rw [hW1] at HG HJ1
  have HW1 := Lib.hid hW1
  unfold GeE at HG
  simp only [digV] at HG ⊢
  clear hp h0 hJ hY hj hall hW1 ih
  refine (callsIn_wide (n := 6)).1 ?_
  refine callsIn_of_wp Tryz.func108 rfl trivial ?_ rfl
  simp only [Tryz.ntmps108, List.size_toArray, List.length_cons, List.length_nil, Nat.reduceAdd, Nat.reduceSub, Array.replicate_succ, Array.replicate_zero, List.push_toArray, List.append_toArray, List.nil_append, List.cons_append]
  gi_wp2_with fail
  rw [HW1.out]
  refine ⟨trivial, (callsIn_wide.2 HG.out).mono ?_⟩
  rintro e w2 ⟨hq, hb⟩
  have HB2 : Hid (Below W.heap.size W w2) := HB1.out.trans (hb.mono HB1.out.size)
  have HJ2 : Hid (J pr0 w2) := HJ.out _ _ _ HJ1.out hb
  have HKY2 := Lib.hid (HKY.out.below hb HKY.out.lt)
  have z2 : W.heap.size + 2 ≤ w2.heap.size := by have := hb.size; omega
  clear hb HG HKY HJ1 HB1
  rcases hq with ⟨o, s, hg, ho, rfl, hm, hn2⟩ | ⟨hg, rfl⟩
  case inr =>
    have HV := Lib.hid (vis_none (n := n) (pre := pr) hg)
    have hALL := HALL.out
    rw [HV.out, vsL_err _ (by decide)] at hALL
    simp only [obV, obC, zOb, zOs]
    obtain ⟨W3, hW3⟩ : ∃ W3, w2.alloc (.cells #[.int .i64 0, .string ⟨#[]⟩, .slice none 0 0, .int .u64 zD.1, .int .u64 zD.2, .slice none 0 0, .string ⟨#[]⟩, .int .i64 0, .string ⟨#[]⟩] 82) = W3 := ⟨_, rfl⟩
    have HB3 : Hid (Below w2.heap.size w2 W3) := by rw [← hW3]; exact (Below.refl _ w2).alloc (Nat.le_refl _) _
    have HF := Lib.hid (fail_any m l B0 hz (W.heap.size + 1) ALL pr0 8 J Jx W3 (HKY2.out.below HB3.out (by omega)) HY.out (HJ.out _ _ _ HJ2.out HB3.out) (by simpa using hALL))
    have HW3 := Lib.hid hW3
    clear hg hALL hW3
    gi_wp2_with fail
    rw [HW3.out]
    refine ⟨trivial, (callsIn_wide.2 HF.out).mono ?_⟩
    rintro e W4 ⟨rfl, hq⟩
    have HQ := Lib.hid hq
    clear hq HF
    gi_wp2
    go_ret
    refine .inr ⟨rfl, ?_⟩
    rw [HV.out]
    rcases HQ.out with h | h
    · exact .inl h
    · exact .inr ⟨by decide, by rw [vsL_err _ (by decide)]; exact h⟩
  case inl =>
    obtain ⟨W3, hW3⟩ : ∃ W3, w2.alloc (.cells (obC o s) 82) = W3 := ⟨_, rfl⟩
    have HB3 : Hid (Below w2.heap.size w2 W3) := by rw [← hW3]; exact (Below.refl _ w2).alloc (Nat.le_refl _) _
    have HK3 : Hid (Bk W3 w2.heap.size 82 (obC o s)) := by rw [← hW3]; exact Bk.new w2 _ _
    have HE3 : Hid (Sl W3 W3.heap.size 4 s.eA s.en (flat enC o.ents)) := (hm.e.below HB3.out (Nat.le_refl _)).more HB3.out.size
    have HN3 : Hid (NewO W3 hz s) := fun a h1 h2 => by
      obtain ⟨h3, cur, h4⟩ := hn2 a h1 h2
      exact ⟨by omega, cur, (HB3.out.block a.block (Array.getElem?_eq_some_iff.1 h4).1).trans h4⟩
    have hlen : s.en ≤ maxLen := Nat.le_trans hm.ele hm.emx
    have HEL := Lib.hid hm.elen
    have HKY3 := Lib.hid (HKY2.out.below HB3.out (by omega))
    have HJ3 : Hid (J pr0 W3) := HJ.out _ _ _ HJ2.out HB3.out
    have HBW : Hid (Below W.heap.size W W3) := HB2.out.trans (HB3.out.mono HB2.out.size)
    have z3 : w2.heap.size < W3.heap.size := HK3.out.lt
    have hlen' : s.en ≤ 9223372036854775807 := by unfold maxLen at hlen; exact hlen
    simp only [obV, obC]
    have HW3 := Lib.hid hW3
    unfold obC at HW3 HK3
    clear hW3 hm hn2 HKY2 HJ2
    by_cases hk : o.kind = 2
    case neg =>
      have HV := Lib.hid (vis_kind (n := n) (pre := pr) hg hk)
      have t1 : (o.kind != 2) = true := by rw [bne_iff_ne]; exact hk
      have hALL := HALL.out
      rw [HV.out, vsL_err _ (by decide)] at hALL
      have HF := Lib.hid (fail_any m l B0 hz (W.heap.size + 1) ALL pr0 9 J Jx W3 HKY3.out HY.out HJ3.out (by simpa using hALL))
      clear hg hALL hk ho
      gi_wp2_with fail
      rw [HW3.out]
      refine ⟨trivial, (callsIn_wide.2 HF.out).mono ?_⟩
      rintro e W4 ⟨rfl, hq⟩
      have HQ := Lib.hid hq
      clear hq HF
      gi_wp2
      go_ret
      refine .inr ⟨rfl, ?_⟩
      rw [HV.out]
      rcases HQ.out with h | h
      · exact .inl h
      · exact .inr ⟨by decide, by rw [vsL_err _ (by decide)]; exact h⟩
    have t1 : (o.kind != 2) = false := by rw [hk]; rfl
    by_cases hemp : o.ents = [] ∧ pr ≠ ⟨#[]⟩
    case pos =>
      have HV := Lib.hid (vis_empty (n := n) (pre := pr) hg hk hemp.1 hemp.2)
      have hen : s.en = 0 := by rw [← HEL.out, hemp.1]; rfl
      have t2 := str_emp hemp.2
      have hALL := HALL.out
      rw [HV.out, vsL_err _ (by decide)] at hALL
      have HF := Lib.hid (fail_any m l B0 hz (W.heap.size + 1) ALL pr0 1 J Jx W3 HKY3.out HY.out HJ3.out (by simpa using hALL))
      clear hg hALL hk hemp ho
      rw [hen] at HW3 HK3 ⊢
      clear hen
      gi_wp2_with fail
      rw [HW3.out]
      refine ⟨trivial, (callsIn_wide.2 HF.out).mono ?_⟩
      rintro e W4 ⟨rfl, hq⟩
      have HQ := Lib.hid hq
      clear hq HF
      gi_wp2
      go_ret
      refine .inr ⟨rfl, ?_⟩
      rw [HV.out]
      rcases HQ.out with h | h
      · exact .inl h
      · exact .inr ⟨by decide, by rw [vsL_err _ (by decide)]; exact h⟩
    have HV := Lib.hid (vis_ents (n := n) (pre := pr) hg hk hemp)
    have HAL : Hid (∃ t, pr0 ++ vsL (vsE (vis p n) p pr o.ents) ++ t = ALL) := by have := HALL.out; rw [HV.out] at this; exact this
    have HES := Lib.hid (okO_tree ho hk)
    have hw2 : ((s.en : Int) == 0) = false ∨ (((s.en : Int) == 0) = true ∧ pr.toList.isEmpty = true) := by
      by_cases h1 : s.en = 0
      · refine .inr ⟨by rw [h1]; rfl, ?_⟩
        have h2 : o.ents = [] := List.eq_nil_of_length_eq_zero (by rw [HEL.out]; exact h1)
        by_cases h3 : pr = ⟨#[]⟩
        · rw [h3, ByteArray.toList_eq]; rfl
        · exact absurd ⟨h2, h3⟩ hemp
      · exact .inl (by rw [beq_eq_false_iff_ne]; omega)
    clear hg hemp ho hk
    have HPW : Hid (Sl W3 B 3 A np (flat itC p)) := H0.out.below HBW.out (by omega)
    have HKW : Hid (KpV B0 hz W W3) := KpV.of_below HBW.out
    obtain ⟨es, hes0⟩ : ∃ es, o.ents = es := ⟨_, rfl⟩
    rw [hes0] at HV HAL HES HE3 HEL
    clear hes0
    obtain ⟨eA, en, ec, pA, pn, pc⟩ := s
    simp only at HE3 HEL HN3 hlen' hw2 HK3 HW3 ⊢
    rcases hw2 with t2 | ⟨t2, t3⟩
    all_goals
      gi_wp2_with fail
      rw [HW3.out]
      try clear t3
      clear t2
      gi_loopw [49] (fun i wr => ∃ (j : Nat) (fs : List Fl), i = .int .i64 (j : Int) ∧ j ≤ en ∧ Hid (VisAt (vis p n) p _ es j fs) ∧ Hid (J (pr0 ++ fs.map vok) wr) ∧ Hid (KpV B0 hz W3 wr) ∧ Hid (Sl wr wr.heap.size 4 eA en (flat enC es)) ∧ Hid (NewO wr hz ⟨eA, en, ec, pA, pn, pc⟩)) (fun i _ => en - (intOf i).toNat)
      case atStart => exact ⟨0, [], rfl, Nat.zero_le _, VisAt.start _ _ _ _, (by show J _ _; simpa using HJ3.out), KpV.refl _ _ _, HE3.out, HN3.out⟩
      case round =>
        obtain ⟨j, fs, rfl, hj, hV, hJr, hKp, hSl, hNw⟩ := hrel
        have zr := hKp.out.size
        have HKr := Lib.hid (hKp.out.bk (by omega) (by decide) HKY3.out)
        have HPr := Lib.hid (hKp.out.sl HPW.out hB (by omega))
        by_cases hlt : j < en
        · obtain ⟨b, off, e, rfl, hbB, he, y0, y1, y2, y3⟩ := hSl.out.en hlt
          have hlz : (j : Int) < (en : Int) := by omega
          have HE := Lib.hid he
          have hnm := (name_len (HES.out.all e (List.mem_of_getElem? he)).nm)
          clear he
          obtain ⟨nm, dir, ⟨g1, g2⟩⟩ := e
          simp only at y0 y1 y2 y3 hnm
          obtain ⟨We, hWe⟩ : ∃ We, wr.alloc (.cells #[.string nm, .bool dir, .int .u64 g1, .int .u64 g2] 102) = We := ⟨_, rfl⟩
          have HBe : Hid (Below wr.heap.size wr We) := by rw [← hWe]; exact (Below.refl _ wr).alloc (Nat.le_refl _) _
          have HKe : Hid (Bk We wr.heap.size 102 #[.string nm, .bool dir, .int .u64 g1, .int .u64 g2]) := by rw [← hWe]; exact Bk.new wr _ _
          have HJe : Hid (J (pr0 ++ fs.map vok) We) := HJ.out _ _ _ hJr.out HBe.out
          have HKYe := Lib.hid (HKr.out.below HBe.out HKr.out.lt)
          have HPe := Lib.hid (HPr.out.below HBe.out (by omega))
          have HSe := Lib.hid ((hSl.out.below HBe.out (Nat.le_refl _)).more HBe.out.size)
          have HKPe : Hid (KpV B0 hz W3 We) := hKp.out.trans (KpV.of_below HBe.out)
          have HNe : Hid (NewO We hz ⟨some ⟨b, off, none⟩, en, ec, pA, pn, pc⟩) := ((KpV.of_below (B0 := B0) (hz := hz) HBe.out).ents hNw.out hSl.out).2
          have HWe := Lib.hid hWe
          have ze : wr.heap.size < We.heap.size := HKe.out.lt
          have hap : ¬ (9223372036854775807 < pr.size + nm.size) := by omega
          obtain ⟨path, hpath⟩ : ∃ path, pr ++ nm = path := ⟨_, rfl⟩
          have hpsz : path.size = pr.size + nm.size := by rw [← hpath]; exact ByteArray.size_append
          have yb := HKr.out.cell 0
          simp at yb
          clear hWe hKp hJr hSl hNw HKr HPr
          by_cases hfar : 100 < path.size
          · have hfz : (100 : Int) < (path.size : Int) := by omega
            have HA := Lib.hid (vsA_err hV.out HE.out (vsE_far (by rw [hpath]; exact hfar)) (by decide) HAL.out)
            obtain ⟨k0, k1, k2, k3⟩ := HKe.out.four
            have HF := Lib.hid (fail_any m l B0 hz (W.heap.size + 1) ALL (pr0 ++ fs.map vok) 4 J Jx We HKYe.out HY.out HJe.out HA.out.1)
            clear hfar
            gi_wp2_with fail
            rw [HWe.out]
            gi_wp2_with fail
            refine ⟨trivial, (callsIn_wide.2 HF.out).mono ?_⟩
            rintro e W9 ⟨rfl, hq⟩
            have HQ := Lib.hid hq
            clear hq HF
            gi_wp2
            go_ret
            refine .inr ⟨rfl, ?_⟩
            rw [HV.out]
            rcases HQ.out with h | h
            · exact .inl h
            · exact .inr ⟨HA.out.2.1, by rw [← HA.out.2.2]; exact h⟩
          have hfz : ¬ (100 : Int) < (path.size : Int) := by omega
          have hfar' : ¬ 100 < (pr ++ nm).size := by rw [hpath]; exact hfar
          obtain ⟨k0, k1, k2, k3⟩ := HKe.out.four
          have hpz : path.size ≤ 100 := by omega
          cases dir with
          | true =>
            have HD := Lib.hid (vsA_dir hV.out HE.out hfar' rfl HAL.out)
            simp only [hpath] at HD
            have hap2 : ¬ (9223372036854775807 < path.size + 1) := by omega
            obtain ⟨sub, hsub⟩ : ∃ sub, path ++ slB = sub := ⟨_, rfl⟩
            have hsub2 : path ++ ⟨#[47]⟩ = sub := hsub
            have hssz : sub.size = path.size + 1 := by rw [← hsub]; exact ByteArray.size_append
            rw [hsub] at HD
            have HC := Lib.hid (IH.out p (g1, g2) sub A np cp B B0 hz l m ALL (pr0 ++ fs.map vok) J Jx We HP.out HPe.out hB hB0 (by omega) hnp (by omega) (by omega) HD.out.1 HJ.out HY.out HJe.out)
            simp only [digV] at HC
            have y0' : (wr.alloc (.cells #[.string nm, .bool true, .int .u64 g1, .int .u64 g2] 102)).cell? ⟨W.heap.size + 1, 0, none⟩ = some (.func (.yield l) #[] #[]) := by rw [HWe.out]; exact HKYe.out.cell 0
            clear hfar hfar' hsub
            gi_wp2_with fail
            rw [HWe.out]
            gi_wp2_with fail
            refine ⟨trivial, (callsIn_wide.2 HC.out).mono ?_⟩
            rintro e W9 (⟨rfl, hr0, hJ9, hK9⟩ | ⟨rfl, hq⟩)
            · have HV9 := Lib.hid (HD.out.2.1 hr0)
              have HJ9 : Hid (J (pr0 ++ (fs ++ (vis p n (g1, g2) sub).1).map vok) W9) := by show J _ _; rw [List.map_append, ← List.append_assoc]; exact hJ9
              have HK9 : Hid (KpV B0 hz W3 W9) := HKPe.out.trans hK9
              have HS9 := Lib.hid (hK9.ents HNe.out HSe.out)
              clear hr0 hJ9 hK9 HC k0 k1 k2 k3 y0' y0 y1 y2 y3
              gi_wp2
              go_roundw
              case rel => exact ⟨j + 1, _, by go_num, hlt, HV9.out, HJ9.out, HK9.out, HS9.out.1, HS9.out.2⟩
              case measure => simp [intOf]; omega
            · have HQ := Lib.hid hq
              clear hq HC k0 k1 k2 k3 y0' y0 y1 y2 y3
              gi_wp2
              go_ret
              refine .inr ⟨rfl, ?_⟩
              rw [HV.out]
              rcases HQ.out with h | ⟨h, h2⟩
              · exact .inl h
              · obtain ⟨h3, h4⟩ := HD.out.2.2 h
                exact .inr ⟨h3, by rw [← h4]; exact h2⟩
          | false =>
            have HC := Lib.hid (tdata_any A np cp B p (g1, g2) We HPe.out (by omega) hnp HP.out)
            unfold DatE at HC
            have hway := ent_ways (g := vis p n) p pr ⟨nm, false, (g1, g2)⟩ (es.drop (j + 1)) hfar' rfl
            simp only at hway
            obtain ⟨⟨ds, dz⟩, hdd⟩ : ∃ r, datP p (g1, g2) = r := ⟨_, rfl⟩
            rw [hdd] at HC hway
            simp only [digV] at HC hway
            have hway' := Lib.hid hway
            have HFA := Lib.hid hfar'
            have HPT := Lib.hid hpath
            clear hfar hfar' hdd hway
            gi_wp2_with fail
            rw [HWe.out]
            gi_wp2_with fail
            refine ⟨trivial, (callsIn_wide.2 HC.out).mono ?_⟩
            rintro e W9 ⟨rfl, hb9⟩
            have HJ9 : Hid (J (pr0 ++ fs.map vok) W9) := HJ.out _ _ _ HJe.out hb9
            have HKY9 := Lib.hid (HKYe.out.below hb9 HKYe.out.lt)
            have HK9 : Hid (KpV B0 hz W3 W9) := HKPe.out.trans (KpV.of_below hb9)
            have HS9 := Lib.hid ((KpV.of_below (B0 := B0) (hz := hz) hb9).ents HNe.out HSe.out)
            have y9 := HKY9.out.cell 0
            simp at y9
            have z9 := hb9.size
            clear hb9 HC k0 k1 k2 k3 y0 y1 y2 y3
            rcases hway'.out with ⟨o', ho', hk', hoz⟩ | ⟨hnz, hvs⟩
            · simp only [Prod.mk.injEq] at hoz
              obtain ⟨rfl, rfl⟩ := hoz
              have HA := Lib.hid (vsA_file hV.out HE.out HFA.out rfl ho' hk' HAL.out)
              simp only [HPT.out] at HA
              obtain ⟨fn, tmps, assign, body, hy, hR⟩ := HY.out _ _ W9 HA.out.1 HJ9.out
              simp only [vdA] at hy
              have HR := Lib.hid (RoundIn.wide (m := 5) hR)
              clear hR hway' ho' hk'
              gi_wp2
              refine HR.out.mono ?_
              rintro e W10 (⟨rfl, hJ10, hK10⟩ | ⟨rfl, hJ10⟩)
              · have HJ10 : Hid (J (pr0 ++ (fs ++ [(path, o'.data)]).map vok) W10) := by show J _ _; rw [List.map_append, ← List.append_assoc]; exact hJ10
                have HK10 : Hid (KpV B0 hz W3 W10) := HK9.out.trans hK10
                have HS10 := Lib.hid (hK10.ents HS9.out.2 HS9.out.1)
                clear hJ10 hK10 HR hy y9
                gi_wp2
                go_roundw
                case rel => exact ⟨j + 1, _, by go_num, hlt, HA.out.2, HJ10.out, HK10.out, HS10.out.1, HS10.out.2⟩
                case measure => simp [intOf]; omega
              · have HJ10 := Lib.hid hJ10
                clear hJ10 HR hy y9
                gi_wp2
                go_ret
                obtain ⟨t, ht⟩ := HA.out.1
                exact .inr ⟨rfl, .inl ⟨_, t, ht, HJ10.out⟩⟩
            · have HA := Lib.hid (vsA_err hV.out HE.out hvs hnz HAL.out)
              have t3 : (dz != 0) = true := by rw [bne_iff_ne]; exact hnz
              clear hway' hnz hvs
              have HF := Lib.hid (fail_any m l B0 hz (W.heap.size + 1) ALL (pr0 ++ fs.map vok) dz J Jx W9 HKY9.out HY.out HJ9.out HA.out.1)
              gi_wp2_with fail
              refine ⟨trivial, (callsIn_wide.2 HF.out).mono ?_⟩
              rintro e W9 ⟨rfl, hq⟩
              have HQ := Lib.hid hq
              clear hq HF
              gi_wp2
              go_ret
              refine .inr ⟨rfl, ?_⟩
              rw [HV.out]
              rcases HQ.out with h | h
              · exact .inl h
              · exact .inr ⟨HA.out.2.1, by rw [← HA.out.2.2]; exact h⟩
        · have hlz : ¬ (j : Int) < (en : Int) := by omega
          have HA := Lib.hid (vsA_done hV.out (by rw [HEL.out]; omega))
          have HKF : Hid (KpV B0 hz W wr) := HKW.out.trans hKp.out
          have HJF : Hid (J (pr0 ++ (vsE (vis p n) p pr es).1.map vok) wr) := by show J _ _; rw [← HA.out.2]; exact hJr.out
          clear hKp hJr hSl hNw HKr HPr
          gi_wp2
          go_ret
          refine .inl ⟨rfl, ?_, ?_, HKF.out⟩
          · rw [HV.out]; exact HA.out.1
          · rw [HV.out]; exact HJF.out
theorem visit_all : ∀ n, VisC n
  | 0 => by
    intro p d pr A np cp B B0 hz l m ALL pr0 J Jx W hp h0 hB hB0 hzW hnp hpr hn
    omega
  | n + 1 => visit_core n (visit_all n)
end Go.Proofs.YtmdhlkkekidknaaGreatDoor

namespace Go.Proofs
open Go.Shelf
def Tryz.sortFil_ren : Go.Shelf.Ren := ⟨fun | 6 => 58 | 15 => 110 | 14 => 109 | 28 => 153 | 29 => 154 | 20 => 145 | 21 => 146 | 22 => 147 | 23 => 148 | 24 => 149 | 25 => 150 | 26 => 151 | 27 => 152 | 46 => 194 | 47 => 195 | 48 => 196 | 49 => 197 | 50 => 198 | 57 => 215 | n => n, fun | 22 => 24 | 24 => 68 | 25 => 90 | 3 => 3 | 39 => 144 | 0 => 0 | 53 => 176 | 55 => 28 | 4 => 4 | 46 => 170 | 45 => 169 | 50 => 71 | 5 => 5 | 9 => 9 | 66 => 212 | 70 => 216 | 76 => 233 | 77 => 234 | n => n, fun | n => n⟩
theorem Tryz.sortFil : Go.Proofs.SlLaysF0.n6 Tryz.prog Tryz.sortFil_ren := {
  mixed := by kernel_rfl
  f6 := ⟨Tryz.f58.name, by decide, Tryz.func58.trans (congrArg some (by kernel_rfl))⟩
  f14 := ⟨Tryz.f109.name, by decide, Tryz.func109.trans (congrArg some (by kernel_rfl))⟩
  f15 := Tryz.func110.trans (congrArg some (by kernel_rfl))
  f20 := ⟨Tryz.f145.name, by decide, Tryz.func145.trans (congrArg some (by kernel_rfl))⟩
  f21 := ⟨Tryz.f146.name, by decide, Tryz.func146.trans (congrArg some (by kernel_rfl))⟩
  f22 := ⟨Tryz.f147.name, by decide, Tryz.func147.trans (congrArg some (by kernel_rfl))⟩
  f23 := ⟨Tryz.f148.name, by decide, Tryz.func148.trans (congrArg some (by kernel_rfl))⟩
  f24 := ⟨Tryz.f149.name, by decide, Tryz.func149.trans (congrArg some (by kernel_rfl))⟩
  f25 := ⟨Tryz.f150.name, by decide, Tryz.func150.trans (congrArg some (by kernel_rfl))⟩
  f26 := ⟨Tryz.f151.name, by decide, Tryz.func151.trans (congrArg some (by kernel_rfl))⟩
  f27 := ⟨Tryz.f152.name, by decide, Tryz.func152.trans (congrArg some (by kernel_rfl))⟩
  f28 := Tryz.func153.trans (congrArg some (by kernel_rfl))
  f29 := Tryz.func154.trans (congrArg some (by kernel_rfl))
  f46 := ⟨Tryz.f194.name, by decide, Tryz.func194.trans (congrArg some (by kernel_rfl))⟩
  f47 := Tryz.func195.trans (congrArg some (by kernel_rfl))
  f48 := Tryz.func196.trans (congrArg some (by kernel_rfl))
  f49 := ⟨Tryz.f197.name, by decide, Tryz.func197.trans (congrArg some (by kernel_rfl))⟩
  f50 := ⟨Tryz.f198.name, by decide, Tryz.func198.trans (congrArg some (by kernel_rfl))⟩
  f57 := ⟨Tryz.f215.name, by decide, Tryz.func215.trans (congrArg some (by kernel_rfl))⟩
  t0 := Tryz.underlying0
  a0 := Tryz.isAgg0
  z0 := Tryz.sizeOf0
  v0 := Tryz.zeroValue0
  t3 := Tryz.underlying3
  a3 := Tryz.isAgg3
  z3 := Tryz.sizeOf3
  v3 := Tryz.zeroValue3
  t4 := Tryz.underlying4
  a4 := Tryz.isAgg4
  z4 := Tryz.sizeOf4
  v4 := Tryz.zeroValue4
  t5 := Tryz.underlying5
  a5 := Tryz.isAgg5
  z5 := Tryz.sizeOf5
  v5 := Tryz.zeroValue5
  t9 := Tryz.underlying9
  a9 := Tryz.isAgg9
  z9 := Tryz.sizeOf9
  v9 := Tryz.zeroValue9
  t22 := Tryz.underlying24
  a22 := Tryz.isAgg24
  z22 := Tryz.sizeOf24
  v22 := Tryz.zeroValue24
  t25 := Tryz.underlying90
  a25 := Tryz.isAgg90
  z25 := Tryz.sizeOf90
  v25 := Tryz.zeroValue90
  t39 := Tryz.underlying144
  a39 := Tryz.isAgg144
  z39 := Tryz.sizeOf144
  v39 := Tryz.zeroValue144
  t45 := Tryz.underlying169
  a45 := Tryz.isAgg169
  z45 := Tryz.sizeOf169
  v45 := Tryz.zeroValue169
  t46 := Tryz.underlying170
  a46 := Tryz.isAgg170
  z46 := Tryz.sizeOf170
  v46 := Tryz.zeroValue170
  t50 := Tryz.underlying71
  a50 := Tryz.isAgg71
  z50 := Tryz.sizeOf71
  v50 := Tryz.zeroValue71
  t53 := Tryz.underlying176
  a53 := Tryz.isAgg176
  z53 := Tryz.sizeOf176
  v53 := Tryz.zeroValue176
  t55 := Tryz.underlying28
  a55 := Tryz.isAgg28
  z55 := Tryz.sizeOf28
  v55 := Tryz.zeroValue28
  t66 := Tryz.underlying212
  a66 := Tryz.isAgg212
  z66 := Tryz.sizeOf212
  v66 := Tryz.zeroValue212
  t70 := Tryz.underlying216
  a70 := Tryz.isAgg216
  z70 := Tryz.sizeOf216
  v70 := Tryz.zeroValue216
  t76 := Tryz.underlying233
  a76 := Tryz.isAgg233
  z76 := Tryz.sizeOf233
  v76 := Tryz.zeroValue233
  t77 := Tryz.underlying234
  a77 := Tryz.isAgg234
  z77 := Tryz.sizeOf234
  v77 := Tryz.zeroValue234 }
end Go.Proofs

namespace Go.Proofs.YtmdhlkkekidknaaGreatDoor
open Go.RowKit

section
variable {P : Program} {w : World} {base size n c : Nat} {e : TypeId} {A : Option Addr} {xs : List Value}
theorem step_append_apd {ops : Array Oper} {o : Oper} {a : Act} {K : Act → World → Prop} {Q : Exit → Act → World → Prop} {E : Prop} (hgd : o.guard = none) (s x : Operand) (t : TypeId)
    (ho : o.op = .call { callee := .builtin .append, args := #[s, x], argTypes := #[t, t] })
    (base : Nat) (e : TypeId) (i : TypeInfo) (z : Value) (size bytes : Nat) (ht : P.underlying t = some (.slice e)) (hi : P.info? e = some i) (hz : i.zero = some z)
    (hsize : i.size = size) (hby : i.bytes = bytes) (hzs : z.cells.size = size) (hsz : 0 < size)
    (A : Option Addr) (n c : Nat) (xs : List Value) (hs : a.eval s = .slice A n c) (hown : Apd w base e size A n c xs)
    (B : Nat) (A' : Option Addr) (m c' : Nat) (ys : List Value) (hx : a.eval x = .slice A' m c') (hsl : Sl w B size A' m ys) (h1 : ∀ u ∈ ys, u.oneCell' = true)
    (h63 : n + m ≤ maxLen) (hbytes : (n + m) * bytes ≤ 140737488355328) (hbase : base ≤ w.heap.size)
    (h : ∀ A2 c2 w', Apd w' base e size A2 (n + m) c2 (xs ++ ys) → Below base w w' → n + m ≤ c2 → c2 ≤ maxLen → K (a.put o.dst (.slice A2 (n + m) c2)) w') :
    if Region.wanted o (yielded ops a.tmps) = true then Oper.wp P o a w K Q else E := by
  have hw : Region.wanted o (yielded ops a.tmps) = true := by simp [Region.wanted, hgd]
  rw [if_pos hw]
  obtain ⟨A2, c2, w', hr, ho', hg, hc1, hc2, _⟩ := run_append_apd (P := P) t o.type i z bytes ht hi hz hsize hby hzs hsz hown (c' := c') hsl h1 h63 hbytes hbase
  unfold Oper.wp
  simp [execOp, ho, resolve, invoke, builtin, hs, hx, hr, Result.andThen]
  exact h A2 c2 w' ho' hg hc1 hc2
end
end Go.Proofs.YtmdhlkkekidknaaGreatDoor

namespace Go.Proofs.YtmdhlkkekidknaaGreatDoor
open Go.RowKit

theorem infoIt : (Tryz.prog.info? 38).map (fun i => (i.zero, i.size, i.bytes)) = some (some (.agg #[.int .u64 0, .int .u64 0, .string ⟨#[]⟩]), 3, 32) := by kernel_rfl
theorem itC_one (l : List Itm) : ∀ u ∈ flat itC l, u.oneCell' = true := fun u hu => by
  unfold flat at hu
  obtain ⟨i, _, h⟩ := List.mem_flatMap.1 hu
  simp [itC] at h
  rcases h with rfl | rfl | rfl <;> rfl
def GroE (n : Nat) (w : World) (e : Ending) (w' : World) : Prop := ∃ A c, e = .returned (.slice A 0 c) ∧ Apd w' w.heap.size 38 3 A 0 c [] ∧ Below w.heap.size w w' ∧ n ≤ c ∧ c ≤ maxLen
set_option maxHeartbeats 1000000 in
theorem grow_any (n : Nat) (w : World) (h0 : 0 < n) (hn : n ≤ 1000000) : Calls Tryz.prog 208 #[.slice none 0 0, .int .i64 n] w (GroE n w) := by
  obtain ⟨i0, hi, hz0, hz1, hz2⟩ := info_parts infoIt
  have HR : Hid (∀ ty, (Builtin.append_ #[23, 3] ty #[.slice none 0 0, .int .i64 (n : Int)]).run Tryz.prog w = .ok (.slice (some ⟨w.heap.size, 0, none⟩) n (grownCap w n 0 38)) (w.drew.alloc (.cells (#[] ++ Builtin.zeroCells (Value.agg #[.int .u64 0, .int .u64 0, .string ⟨#[]⟩]).cells n ++ Builtin.zeroCells (Value.agg #[.int .u64 0, .int .u64 0, .string ⟨#[]⟩]).cells (grownCap w n 0 38 - n)) 38))) := fun ty => by
    have h := Lib.run_append_grow_zeros w 23 3 ty 38 i0 _ .i64 .i64 Tryz.underlying23 Tryz.underlying3 hi hz0 none 0 0 [] (run_firstCells_none w.drew i0.size 0 0 0) n h0 (by rw [hz1]; omega) (by omega) (by omega) (by rw [hz2]; omega) (growslice_fits (by omega) (by rw [hz2]; omega))
    simp only [Nat.zero_add] at h
    exact h
  clear hi hz0 hz1 hz2
  have hG := grownCap_ge w n 0 38
  have hG2 := grownCap_le_maxLen w n 0 38 (by unfold maxLen; omega)
  obtain ⟨G, hGe⟩ : ∃ G, grownCap w n 0 38 = G := ⟨_, rfl⟩
  rw [hGe] at HR hG hG2
  obtain ⟨W, hW⟩ : ∃ W, w.drew.alloc (.cells (#[] ++ Builtin.zeroCells (Value.agg #[.int .u64 0, .int .u64 0, .string ⟨#[]⟩]).cells n ++ Builtin.zeroCells (Value.agg #[.int .u64 0, .int .u64 0, .string ⟨#[]⟩]).cells (G - n)) 38) = W := ⟨_, rfl⟩
  rw [hW] at HR
  have HB : Hid (Below w.heap.size w W) := by rw [← hW]; exact (Below.refl _ w).drew.alloc (Nat.le_refl _) _
  have HA : Hid (Apd W w.heap.size 38 3 (some ⟨w.heap.size, 0, none⟩) 0 G []) := by
    refine .inl ⟨rfl, .inr ⟨w.heap.size, G, _, rfl, Nat.le_refl _, by rw [← hW]; exact heap_alloc_new w.drew _, Nat.zero_le _, hG2, ?_, by simp⟩⟩
    rw [Array.size_append, Array.size_append, size_zeroCells, size_zeroCells]
    show 0 + n * 3 + (G - n) * 3 = G * 3
    omega
  have HG2 := Lib.hid hG2; have HG := Lib.hid hG
  have hG3 : G ≤ 9223372036854775807 := by unfold maxLen at hG2; exact hG2
  clear hW hGe hG2
  go_enter Tryz.func208, Tryz.ntmps208
  go_wp2_with (at_builtin; refine Lib.wpList_append_run _ rfl _ _ _ _ rfl _ _ rfl rfl _ _ (HR.out _) ?_)
  go_ret
  exact ⟨_, _, rfl, HA.out, HB.out, HG.out, HG2.out⟩
def ConE (n : Nat) (xs : List Itm) (w : World) (e : Ending) (w' : World) : Prop := ∃ A c, e = .returned (.slice A n c) ∧ Apd w' w.heap.size 38 3 A n c (flat itC xs) ∧ Below w.heap.size w w' ∧ n ≤ c ∧ c ≤ maxLen
set_option maxRecDepth 100000 in
set_option maxHeartbeats 4000000 in
theorem concat_any (b B : Nat) (t : TypeId) (A0 A1 A2 : Option Addr) (n0 n1 n2 c0 c1 c2 : Nat) (x0 x1 x2 : List Itm) (w : World) (hk : Bk w b t #[.slice A0 n0 c0, .slice A1 n1 c1, .slice A2 n2 c2])
    (h0 : Sl w B 3 A0 n0 (flat itC x0)) (h1 : Sl w B 3 A1 n1 (flat itC x1)) (h2 : Sl w B 3 A2 n2 (flat itC x2)) (hB : B ≤ w.heap.size) (hn : n0 + n1 + n2 ≤ 1000000) (hpos : 0 < n0 + n1 + n2) :
    Calls Tryz.prog 184 #[.slice (some ⟨b, 0, none⟩) 3 3] w (ConE (n0 + n1 + n2) (x0 ++ x1 ++ x2) w) := by
  have HK := Lib.hid hk
  obtain ⟨k0, k1, k2⟩ := hk.three
  have H0 := Lib.hid h0; have H1 := Lib.hid h1; have H2 := Lib.hid h2
  clear hk h0 h1 h2
  obtain ⟨i0, hi, hz0, hz1, hz2⟩ := info_parts infoIt
  have Hi := Lib.hid hi; have Hz0 := Lib.hid hz0; have Hz1 := Lib.hid hz1; have Hz2 := Lib.hid hz2
  clear hi hz0 hz1 hz2
  go_enter Tryz.func184, Tryz.ntmps184
  go_wp2_with fail
  go_loopw [3, 11] (fun s i wr => ∃ (k s' : Nat), i = .int .i64 (k : Int) ∧ s = .int .i64 (s' : Int) ∧ wr = w ∧ ((k = 0 ∧ s' = 0) ∨ (k = 1 ∧ n0 = s') ∨ (k = 2 ∧ n0 + n1 = s') ∨ (k = 3 ∧ n0 + n1 + n2 = s'))) (fun _ i _ => 3 - (intOf i).toNat)
  case atStart => exact ⟨0, 0, rfl, rfl, rfl, .inl ⟨rfl, rfl⟩⟩
  case round =>
    obtain ⟨k, s, rfl, rfl, rfl, hks⟩ := hrel
    rcases hks with ⟨rfl, rfl⟩ | ⟨rfl, rfl⟩ | ⟨rfl, rfl⟩ | ⟨rfl, rfl⟩
    · go_wp2_with fail
      go_roundw
      case rel => exact ⟨1, n0, by go_num, by go_num, trivial, .inr (.inl ⟨rfl, rfl⟩)⟩
      case measure => simp [intOf]
    · go_wp2_with fail
      go_roundw
      case rel => exact ⟨2, n0 + n1, by go_num, by go_num, trivial, .inr (.inr (.inl ⟨rfl, rfl⟩))⟩
      case measure => simp [intOf]
    · go_wp2_with fail
      go_roundw
      case rel => exact ⟨3, n0 + n1 + n2, by go_num, by go_num, trivial, .inr (.inr (.inr ⟨rfl, rfl⟩))⟩
      case measure => simp [intOf]
    · obtain ⟨wo, hwo⟩ : ∃ wo, wo = wr := ⟨_, rfl⟩
      subst hwo
      have HG := Lib.hid (grow_any (n0 + n1 + n2) wo hpos hn)
      go_wp2_with fail
      refine HG.out.mono ?_
      rintro e w2 ⟨A, c, rfl, ha, hb, hc1, hc2⟩
      have HA := Lib.hid ha; have HB := Lib.hid hb
      obtain ⟨k0, k1, k2⟩ := (HK.out.below hb HK.out.lt).three
      clear ha hb HG
      go_wp2_with fail
      go_loopw [6, 27] (fun r i wq => ∃ (k : Nat) (A' : Option Addr) (m c' : Nat) (xs : List Itm), i = .int .i64 (k : Int) ∧ r = .slice A' m c' ∧ Hid (Apd wq wo.heap.size 38 3 A' m c' (flat itC xs)) ∧ Hid (Below wo.heap.size wo wq) ∧ m ≤ c' ∧ c' ≤ maxLen ∧
        ((k = 0 ∧ m = 0 ∧ xs = []) ∨ (k = 1 ∧ n0 = m ∧ x0 = xs) ∨ (k = 2 ∧ n0 + n1 = m ∧ x0 ++ x1 = xs) ∨ (k = 3 ∧ n0 + n1 + n2 = m ∧ x0 ++ x1 ++ x2 = xs))) (fun _ i _ => 3 - (intOf i).toNat)
      case atStart => exact ⟨0, A, 0, c, [], rfl, rfl, HA.out, HB.out, Nat.zero_le _, hc2, .inl ⟨rfl, rfl, rfl⟩⟩
      case round =>
        obtain ⟨k, A', m, c', xs, rfl, rfl, hA, hBel, hmc, hcm, hks⟩ := hrel
        obtain ⟨k0, k1, k2⟩ := (HK.out.below hBel.out HK.out.lt).three
        rcases hks with ⟨rfl, rfl, rfl⟩ | ⟨rfl, hme, rfl⟩ | ⟨rfl, hme, rfl⟩ | ⟨rfl, hme, rfl⟩
        · have HN : Hid (0 + n0 ≤ maxLen) := by show _ ≤ _; unfold maxLen; omega
          have HY : Hid ((0 + n0) * 32 ≤ 140737488355328) := by show _ ≤ _; omega
          have HS := Lib.hid (H0.out.below hBel.out hB)
          have hm9 : 0 + n0 ≤ 1000000 := by omega
          go_wp2_with (at_builtin; refine halt_ ?_)
          refine unhalt ?_
          refine wpList_append_apd (base := wo.heap.size) (size := 3) _ rfl (.tmp 31) (.tmp 32) 23 rfl 38 i0 _ 32 Tryz.underlying23 Hi.out Hz0.out Hz1.out Hz2.out rfl (by decide) A' 0 c' _ rfl hA.out B _ n0 _ _ rfl HS.out (itC_one _) HN.out HY.out hBel.out.size ?_
          intro A4 c4 w4 ha4 hb4 hn4 hm4 _
          rw [← flat_append] at ha4
          have HA4 := Lib.hid ha4
          have HB4 : Hid (Below wo.heap.size wo w4) := hBel.out.trans hb4
          clear ha4 hb4 hA
          go_wp2_with fail
          go_roundw
          case rel => exact ⟨1, A4, n0, c4, _, by go_num, rfl, (by have := HA4.out; rwa [Nat.zero_add] at this), HB4.out, by omega, hm4, .inr (.inl ⟨rfl, rfl, rfl⟩)⟩
          case measure => simp [intOf]
        · have HN : Hid (m + n1 ≤ maxLen) := by show _ ≤ _; unfold maxLen; omega
          have HY : Hid ((m + n1) * 32 ≤ 140737488355328) := by show _ ≤ _; omega
          have HS := Lib.hid (H1.out.below hBel.out hB)
          have hm9 : m + n1 ≤ 1000000 := by omega
          have HME := Lib.hid hme
          clear hme
          go_wp2_with (at_builtin; refine halt_ ?_)
          refine unhalt ?_
          refine wpList_append_apd (base := wo.heap.size) (size := 3) _ rfl (.tmp 31) (.tmp 32) 23 rfl 38 i0 _ 32 Tryz.underlying23 Hi.out Hz0.out Hz1.out Hz2.out rfl (by decide) A' m c' _ rfl hA.out B _ n1 _ _ rfl HS.out (itC_one _) HN.out HY.out hBel.out.size ?_
          intro A4 c4 w4 ha4 hb4 hn4 hm4 _
          rw [← flat_append] at ha4
          have HA4 := Lib.hid ha4
          have HB4 : Hid (Below wo.heap.size wo w4) := hBel.out.trans hb4
          clear ha4 hb4 hA
          go_wp2_with fail
          go_roundw
          case rel => exact ⟨2, A4, m + n1, c4, _, by go_num, rfl, HA4.out, HB4.out, hn4, hm4, .inr (.inr (.inl ⟨rfl, by rw [HME.out], rfl⟩))⟩
          case measure => simp [intOf]
        · have HN : Hid (m + n2 ≤ maxLen) := by show _ ≤ _; unfold maxLen; omega
          have HY : Hid ((m + n2) * 32 ≤ 140737488355328) := by show _ ≤ _; omega
          have HS := Lib.hid (H2.out.below hBel.out hB)
          have hm9 : m + n2 ≤ 1000000 := by omega
          have HME := Lib.hid hme
          clear hme
          go_wp2_with (at_builtin; refine halt_ ?_)
          refine unhalt ?_
          refine wpList_append_apd (base := wo.heap.size) (size := 3) _ rfl (.tmp 31) (.tmp 32) 23 rfl 38 i0 _ 32 Tryz.underlying23 Hi.out Hz0.out Hz1.out Hz2.out rfl (by decide) A' m c' _ rfl hA.out B _ n2 _ _ rfl HS.out (itC_one _) HN.out HY.out hBel.out.size ?_
          intro A4 c4 w4 ha4 hb4 hn4 hm4 _
          rw [← flat_append] at ha4
          have HA4 := Lib.hid ha4
          have HB4 : Hid (Below wo.heap.size wo w4) := hBel.out.trans hb4
          clear ha4 hb4 hA
          go_wp2_with fail
          go_roundw
          case rel => exact ⟨3, A4, m + n2, c4, _, by go_num, rfl, HA4.out, HB4.out, hn4, hm4, .inr (.inr (.inr ⟨rfl, by rw [HME.out], rfl⟩))⟩
          case measure => simp [intOf]
        · subst hme
          go_wp2_with fail
          go_ret
          exact ⟨_, _, rfl, hA.out, hBel.out, hmc, hcm⟩
def itB (x : Itm) : Array Value := #[.int .u64 x.1.1, .int .u64 x.1.2, .string x.2]
def SlI (x : Itm) (v : Value) (W : World) : Prop := ∃ b0, v = .slice (some ⟨b0, 0, none⟩) 1 1 ∧ Bk W b0 38 (itB x)
def Sl3 (A : Option Addr) (m c : Nat) (Ak : Option Addr) (n' c' : Nat) (x : Itm) (v : Value) (W : World) : Prop :=
  ∃ b0 b1, v = .slice (some ⟨b1, 0, none⟩) 3 3 ∧ Bk W b1 23 #[.slice A m c, .slice (some ⟨b0, 0, none⟩) 1 1, .slice Ak n' c'] ∧ Bk W b0 38 (itB x)
def RsP (base n : Nat) (q : List Itm) (v : Value) (W : World) : Prop := ∃ A c, v = .slice A n c ∧ W.ownsRow base 38 3 (.slice A n c) n (flat itC q) ∧ n ≤ c ∧ c ≤ maxLen
theorem SlI.keep {x : Itm} {v : Value} {W W' : World} (h : SlI x v W) (hb : Below W.heap.size W W') : SlI x v W' := by
  obtain ⟨b0, h1, h2⟩ := h
  exact ⟨b0, h1, h2.below hb h2.lt⟩
theorem Sl3.keep {A Ak : Option Addr} {m c n' c' : Nat} {x : Itm} {v : Value} {W W' : World} (h : Sl3 A m c Ak n' c' x v W) (hb : Below W.heap.size W W') : Sl3 A m c Ak n' c' x v W' := by
  obtain ⟨b0, b1, h1, h2, h3⟩ := h
  exact ⟨b0, b1, h1, h2.below hb h2.lt, h3.below hb h3.lt⟩
theorem ownsRow_upon {w w' : World} {base size n : Nat} {e : TypeId} {v : Value} {xs : List Value} (h : w.ownsRow base e size v n xs) (hb : Below w.heap.size w w') : w'.ownsRow base e size v n xs :=
  h.kept (row := none) ⟨hb.os, hb.tape, hb.output, hb.size, fun k hk _ => hb.block k hk⟩ (by
    cases hv : v.ownBlock with
    | none => exact .inl rfl
    | some k => exact .inr (by simp))
theorem ownsRow_bk {w : World} {base size n b : Nat} {e t : TypeId} {v : Value} {xs : List Value} {cs : Array Value} (h : w.ownsRow base e size v n xs) (hb : Bk w b t cs) (hne : e ≠ t) (i : Nat) (x : Value) : (w.setCell ⟨b, i, none⟩ x).ownsRow base e size v n xs := by
  refine h.kept (row := some b) ⟨rfl, rfl, rfl, by simp, fun k _ hk => Below.heap_setCell _ _ _ k (fun e => hk (by rw [e]))⟩ ?_
  rcases h.2 with ⟨rfl, _⟩ | ⟨g, cap, cur, rfl, _, hh, _⟩
  · exact .inl rfl
  · refine .inr fun he => ?_
    have hgb : g = b := by simpa [Value.ownBlock] using he
    subst hgb
    unfold Bk at hb
    rw [hh] at hb
    have := Option.some.inj hb
    injection this with _ ht _
    exact hne ht
theorem RsP.keep {base n : Nat} {q : List Itm} {v : Value} {W W' : World} (h : RsP base n q v W) (hb : Below W.heap.size W W') : RsP base n q v W' := by
  obtain ⟨A, c, h1, h2, h3, h4⟩ := h
  exact ⟨A, c, h1, ownsRow_upon h2 hb, h3, h4⟩
theorem Apd.own {w : World} {base size n c : Nat} {e : TypeId} {A : Option Addr} {xs : List Value} (h : Apd w base e size A n c xs) (hn : 0 < n) : w.ownsRow base e size (.slice A n c) n xs := by
  rcases h with h | ⟨h, _⟩
  · exact h
  · omega
theorem ownsRow_low {W : World} {base base' size n : Nat} {e : TypeId} {v : Value} {xs : List Value} (h : W.ownsRow base e size v n xs) (hb : base' ≤ base) : W.ownsRow base' e size v n xs := by
  refine ⟨h.1, ?_⟩
  rcases h.2 with hn | ⟨g, cap, cur, hv, hbg, rest⟩
  · exact .inl hn
  · exact .inr ⟨g, cap, cur, hv, Nat.le_trans hb hbg, rest⟩
def Ply (w : World) (base : Nat) (A0 : Option Addr) (c0 : Nat) (p : List Itm) (A : Option Addr) (c : Nat) (q : List Itm) : Prop :=
  (A = A0 ∧ c = c0 ∧ q = p) ∨ w.ownsRow base 38 3 (.slice A q.length c) q.length (flat itC q)
theorem sl_item {W : World} {b0 : Nat} {x : Itm} (h : Bk W b0 38 (itB x)) : Sl W W.heap.size 3 (some ⟨b0, 0, none⟩) 1 (flat itC [x]) := Sl.of_bk (n := 1) h rfl
theorem Sl.it_take {w : World} {B n k : Nat} {A : Option Addr} {l : List Itm} (h : Sl w B 3 A n (flat itC l)) (hk : k ≤ n) : Sl w B 3 A k (flat itC (l.take k)) := h.take_ itC_len (by omega) hk
def InpE (A0 : Option Addr) (c0 : Nat) (p : List Itm) (x : Itm) (w : World) (e : Ending) (w' : World) : Prop :=
  ((∃ q A c, insP p x = some q ∧ e = .returned (.tuple #[.slice A q.length c, .int .i64 0]) ∧ Sl w' w'.heap.size 3 A q.length (flat itC q) ∧ q.length ≤ c ∧ c ≤ maxLen ∧ Ply w' w.heap.size A0 c0 p A c q) ∨ (insP p x = none ∧ e = .returned (.tuple #[.slice none 0 0, .int .i64 16]))) ∧ Below w.heap.size w w'
theorem find_at {p : List Itm} {d : Dig} {b : ByteArray} (hf : findP p d = some b) : ∃ i, p[atD p d]? = some i ∧ i.2 = b ∧ atD p d < p.length := by
  unfold findP at hf
  cases hi : p[atD p d]? with
  | none => rw [hi] at hf; cases hf
  | some i =>
    rw [hi] at hf
    simp only at hf
    split at hf
    · exact ⟨i, rfl, by cases hf; rfl, (List.getElem?_eq_some_iff.1 hi).1⟩
    · cases hf
set_option maxRecDepth 100000 in
set_option maxHeartbeats 4000000 in
theorem pinsert_any (A : Option Addr) (n c B : Nat) (p : List Itm) (x : Itm) (w : World) (h0 : Sl w B 3 A n (flat itC p)) (hB : B ≤ w.heap.size) (hnc : n ≤ c) (hcm : c ≤ maxLen) (hn : n ≤ 900000) (ha : AscI p) :
    Calls Tryz.prog 131 #[.slice A n c, itV x] w (InpE A c p x w) := by
  have HL := Lib.hid (h0.len itC_len (by omega))
  have HAS := Lib.hid ha; have HCM := Lib.hid hcm; have HNC := Lib.hid hnc
  obtain ⟨⟨d1, d2⟩, s⟩ := x
  obtain ⟨W, hW⟩ : ∃ W, w.alloc (.cells #[.int .u64 d1, .int .u64 d2, .string s] 38) = W := ⟨_, rfl⟩
  have HB0 : Hid (Below w.heap.size w W) := by rw [← hW]; exact (Below.refl _ w).alloc (Nat.le_refl _) _
  have HK : Hid (Bk W w.heap.size 38 #[.int .u64 d1, .int .u64 d2, .string s]) := by rw [← hW]; exact Bk.new w _ _
  have zk : w.heap.size < W.heap.size := HK.out.lt
  have HC := Lib.hid (pfind_any A n c B p (d1, d2) W (h0.below HB0.out hB) (Nat.le_trans hB HB0.out.size) (by omega) ha)
  have H0 := Lib.hid h0
  clear h0 ha hcm
  unfold BsE at HC
  simp only [digV, itV] at HC ⊢
  obtain ⟨x0, x1, x2⟩ := HK.out.three
  obtain ⟨m, hm⟩ : ∃ m, atD p (d1, d2) = m := ⟨_, rfl⟩
  have HM := Lib.hid hm
  rw [hm] at HC
  have hmn : m ≤ n := by rw [← hm, ← HL.out]; exact atD_le _ _
  cases hf : findP p (d1, d2) with
  | none =>
    have HN : Hid (insP p ((d1, d2), s) = some (p.take m ++ [((d1, d2), s)] ++ p.drop m)) := by
      show _ = _
      unfold insP; simp only [hf, HM.out]
    have HQ : Hid ((p.take m ++ [((d1, d2), s)] ++ p.drop m).length = m + 1 + (n - m)) := by
      show _ = _
      rw [List.length_append, List.length_append, List.length_take, List.length_drop, HL.out, Nat.min_eq_left hmn]; rfl
    rw [hf] at HC
    simp only [Option.isSome_none] at HC
    obtain ⟨i0, hi, hz0, hz1, hz2⟩ := info_parts infoIt
    have tk := run_slice_to (P := Tryz.prog) 23 i0 Tryz.underlying23 hi A n c m (by omega)
    obtain ⟨Ak, hAr, hAk⟩ := run_slice_from (P := Tryz.prog) 23 i0 Tryz.underlying23 hi hz1 A n c m hmn hnc
    have HAk := Lib.hid hAk
    clear hf hm hi hz0 hz1 hz2 hAk
    go_enter Tryz.func131, Tryz.ntmps131
    go_wp2_with fail
    refine HC.out.mono ?_
    rintro e w2 ⟨rfl, hb⟩
    have HB2 : Hid (Below w.heap.size w w2) := HB0.out.trans (hb.mono HB0.out.size)
    have HK2 := Lib.hid (HK.out.below hb zk)
    have zw2 : w.heap.size < w2.heap.size := Nat.lt_of_lt_of_le zk hb.size
    have HS2 := Lib.hid (H0.out.below HB2.out hB)
    obtain ⟨k0, k1, k2⟩ := HK2.out.three
    have hB2 : B ≤ w2.heap.size := by omega
    clear hb HC x0 x1 x2 hW
    have HSP : Hid (∀ x ∈ [(4, SlI ((d1, d2), s)), (8, Sl3 A m c Ak (n - m) (c - m) ((d1, d2), s)), (9, RsP w2.heap.size (m + 1 + (n - m)) (p.take m ++ [((d1, d2), s)] ++ p.drop m))], ∀ v W W', x.2 v W → Below W.heap.size W W' → x.2 v W') := fun x hx v W W' h hb => by
      simp only [List.mem_cons, List.not_mem_nil, or_false] at hx
      rcases hx with rfl | rfl | rfl
      · exact SlI.keep h hb
      · exact Sl3.keep h hb
      · exact RsP.keep h hb
    go_wp2_with fail
    refine wp_region_stableGD 10 (17 :: 18 :: 19 :: 20 :: 21 :: 22 :: 23 :: 24 :: 25 :: 26 :: []) (by kernel_rfl) (by kernel_rfl) (by kernel_rfl) (fun W => Below w2.heap.size w2 W) (fun W W' => Below W.heap.size W W')
      (gPhi [(4, SlI ((d1, d2), s)), (8, Sl3 A m c Ak (n - m) (c - m) ((d1, d2), s)), (9, RsP w2.heap.size (m + 1 + (n - m)) (p.take m ++ [((d1, d2), s)] ++ p.drop m))] ((.slice A n c) :: (.int .i64 m) :: (.slice A m c) :: (.agg #[.int .u64 d1, .int .u64 d2, .string s]) :: (undef) :: (.slice A n c) :: (.int .i64 m) :: (.slice Ak (n - m) (c - m)) :: (undef) :: (undef) :: [])) (fun W W' h1 h2 => h1.trans (h2.mono h1.size)) (fun i v W W' h hb => gPhi_keep HSP.out i v W W' h hb) (Below.refl _ _).drew ?stepA ?tailA
    case stepA =>
      intro i o vs W hi ho hv hR hphi
      obtain ⟨v0, v1, v2, v3, v4, v5, v6, v7, v8, v9, rfl⟩ := ls10 hv
      simp only [List.zip, List.zipWith, putAll, Act.put, List.setIfInBounds_toArray, List.set]
      have hWz := hR.size
      have g0 := (hR.cell (p := ⟨w.heap.size, 0, none⟩) (by show w.heap.size < _; omega)).trans k0
      have g1 := (hR.cell (p := ⟨w.heap.size, 1, none⟩) (by show w.heap.size < _; omega)).trans k1
      have g2 := (hR.cell (p := ⟨w.heap.size, 2, none⟩) (by show w.heap.size < _; omega)).trans k2
      match i, hi, ho with
      | 0, _, rfl =>
        exact .inl ⟨rfl, gives_value (v := .slice A n c) (w' := W) (by go_simp) ⟨Below.refl _ _, fun u hu => by cases hu; rfl⟩⟩
      | 1, _, rfl =>
        exact .inl ⟨rfl, gives_value (v := .int .i64 m) (w' := W) (by go_simp) ⟨Below.refl _ _, fun u hu => by cases hu; rfl⟩⟩
      | 2, _, rfl =>
        have e0 : v0 = _ := hphi ⟨0, .data⟩ (by simp) rfl v0 rfl _ rfl
        have e1 : v1 = _ := hphi ⟨1, .data⟩ (by simp) rfl v1 rfl _ rfl
        subst e0 e1
        exact .inl ⟨rfl, gives_value (v := .slice A m c) (w' := W) (by go_simp) ⟨Below.refl _ _, fun u hu => by cases hu; rfl⟩⟩
      | 3, _, rfl =>
        exact .inl ⟨rfl, gives_value (v := .agg #[.int .u64 d1, .int .u64 d2, .string s]) (w' := W) (by go_simp) ⟨Below.refl _ _, fun u hu => by cases hu; rfl⟩⟩
      | 4, _, rfl =>
        have e3 : v3 = _ := hphi ⟨3, .data⟩ (by simp) rfl v3 rfl _ rfl
        subst e3
        exact .inl ⟨rfl, gives_value (v := .slice (some ⟨W.heap.size, 0, none⟩) 1 1) (w' := W.alloc (.cells #[.int .u64 d1, .int .u64 d2, .string s] 38)) (by go_simp) ⟨(Below.refl _ W).alloc (Nat.le_refl _) _, W.heap.size, rfl, Bk.new W _ _⟩⟩
      | 5, _, rfl =>
        exact .inl ⟨rfl, gives_value (v := .slice A n c) (w' := W) (by go_simp) ⟨Below.refl _ _, fun u hu => by cases hu; rfl⟩⟩
      | 6, _, rfl =>
        exact .inl ⟨rfl, gives_value (v := .int .i64 m) (w' := W) (by go_simp) ⟨Below.refl _ _, fun u hu => by cases hu; rfl⟩⟩
      | 7, _, rfl =>
        have e5 : v5 = _ := hphi ⟨5, .data⟩ (by simp) rfl v5 rfl _ rfl
        have e6 : v6 = _ := hphi ⟨6, .data⟩ (by simp) rfl v6 rfl _ rfl
        subst e5 e6
        exact .inl ⟨rfl, gives_value (v := .slice Ak (n - m) (c - m)) (w' := W) (by go_simp) ⟨Below.refl _ _, fun u hu => by cases hu; rfl⟩⟩
      | 8, _, rfl =>
        have e2 : v2 = _ := hphi ⟨2, .data⟩ (by simp) rfl v2 rfl _ rfl
        obtain ⟨b0, rfl, hb0⟩ : (SlI ((d1, d2), s)) v4 W := hphi ⟨4, .data⟩ (by simp) rfl v4 rfl
        have e7 : v7 = _ := hphi ⟨7, .data⟩ (by simp) rfl v7 rfl _ rfl
        subst e2 e7
        exact .inl ⟨rfl, gives_value (v := .slice (some ⟨W.heap.size, 0, none⟩) 3 3) (w' := W.alloc (.cells #[.slice A m c, .slice (some ⟨b0, 0, none⟩) 1 1, .slice Ak (n - m) (c - m)] 23)) (by go_simp) ⟨(Below.refl _ W).alloc (Nat.le_refl _) _, b0, W.heap.size, rfl, Bk.new W _ _, hb0.alloc _⟩⟩
      | 9, _, rfl =>
        obtain ⟨b0, b1, rfl, hb1, hb0⟩ : (Sl3 A m c Ak (n - m) (c - m) ((d1, d2), s)) v8 W := hphi ⟨8, .data⟩ (by simp) rfl v8 rfl
        refine .inl ⟨rfl, gives_call (f := 184) (args := #[.slice (some ⟨b1, 0, none⟩) 3 3]) (by go_simp) ((concat_any b1 W.heap.size _ A (some ⟨b0, 0, none⟩) Ak m 1 (n - m) c 1 (c - m) (p.take m) [((d1, d2), s)] (p.drop m) W hb1 (((HS2.out.it_take hmn).below hR hB2).more (Nat.le_trans hB2 hR.size)) (sl_item hb0) ((by rw [flat_drop itC_len]; exact HAk.out W B _ (HS2.out.below hR hB2) : Sl W B 3 Ak (n - m) (flat itC (p.drop m))).more (Nat.le_trans hB2 hR.size)) (Nat.le_refl _) (by omega) (by omega)).mono ?_)⟩
        rintro e W' ⟨A9, c9, rfl, ha9, hb9, hn9, hm9⟩
        exact ⟨_, rfl, hb9, ⟨A9, c9, rfl, ownsRow_low (ha9.own (by omega)) hR.size, hn9, hm9⟩⟩
      | i + 10, hi, _ => exact absurd hi (by omega)
    case tailA =>
      intro vs W hv hR hphi
      obtain ⟨v0, v1, v2, v3, v4, v5, v6, v7, v8, v9, rfl⟩ := ls10 hv
      simp only [List.zip, List.zipWith, putAll, Act.put, List.setIfInBounds_toArray, List.set, List.drop]
      have e0 : v0 = _ := hphi 0 v0 rfl _ rfl
      have e1 : v1 = _ := hphi 1 v1 rfl _ rfl
      have e2 : v2 = _ := hphi 2 v2 rfl _ rfl
      have e3 : v3 = _ := hphi 3 v3 rfl _ rfl
      have e4 : (SlI ((d1, d2), s)) v4 W := hphi 4 v4 rfl
      have e5 : v5 = _ := hphi 5 v5 rfl _ rfl
      have e6 : v6 = _ := hphi 6 v6 rfl _ rfl
      have e7 : v7 = _ := hphi 7 v7 rfl _ rfl
      have e8 : (Sl3 A m c Ak (n - m) (c - m) ((d1, d2), s)) v8 W := hphi 8 v8 rfl
      have e9 : (RsP w2.heap.size (m + 1 + (n - m)) (p.take m ++ [((d1, d2), s)] ++ p.drop m)) v9 W := hphi 9 v9 rfl
      subst e0 e1 e2 e3 e5 e6 e7
      clear hphi hv
      obtain ⟨A9, c9, rfl, hs9, hn9, hm9⟩ := e9
      have HR := Lib.hid hR
      clear hR
      go_wp2_with fail
      go_ret2
      exact ⟨.inl ⟨_, A9, c9, HN.out, by rw [HQ.out]; rfl, by rw [HQ.out]; exact Sl.of_own hs9, by rw [HQ.out]; exact hn9, hm9, .inr (by rw [HQ.out]; exact ownsRow_low hs9 (by omega))⟩, HB2.out.trans (HR.out.mono HB2.out.size)⟩
  | some b =>
    obtain ⟨i, hi, hib, hil⟩ := find_at hf
    rw [hm] at hi hil
    have hlt : m < n := by rw [← HL.out]; exact hil
    have HNN : Hid (insP p ((d1, d2), s) = if b = s then some p else none) := by
      show _ = _
      unfold insP; simp only [hf]
    rw [hf] at HC
    simp only [Option.isSome_some] at HC
    clear hf hm hil
    go_enter Tryz.func131, Tryz.ntmps131
    go_wp2_with fail
    refine HC.out.mono ?_
    rintro e w2 ⟨rfl, hb⟩
    have HB2 : Hid (Below w.heap.size w w2) := HB0.out.trans (hb.mono HB0.out.size)
    have HK2 := Lib.hid (HK.out.below hb zk)
    have zw2 : w.heap.size < w2.heap.size := Nat.lt_of_lt_of_le zk hb.size
    have HS2 := Lib.hid (H0.out.below HB2.out hB)
    obtain ⟨bb, off, i', rfl, hbB, hx, y0, y1, y2⟩ := HS2.out.it hlt
    rw [hi] at hx
    obtain rfl := Option.some.inj hx
    rw [hib] at y2
    obtain ⟨k0, k1, k2⟩ := HK2.out.three
    have hB2 : B ≤ w2.heap.size := by omega
    have hmn' : (m : Int) < (n : Int) := by omega
    clear hb HC x0 x1 x2 hW hi hx
    have t2 := str_dec b s
    by_cases hbs : b = s
    · have HN : Hid (insP p ((d1, d2), s) = some p) := by show _ = _; rw [HNN.out, if_pos hbs]
      have l1 : (b.toList != s.toList) = !(decide (b = s)) := by rw [← str_dec]; rfl
      rw [decide_eq_true hbs] at t2 l1
      clear hbs
      go_wp2_with fail
      go_quiet (fail)
      go_wp2_with fail
      go_ret2
      exact ⟨.inl ⟨p, some ⟨bb, off, none⟩, c, HN.out, by rw [HL.out]; rfl, by rw [HL.out]; exact HS2.out.more hB2, by rw [HL.out]; exact HNC.out, HCM.out, .inl ⟨rfl, rfl, rfl⟩⟩, below_drewN HB2.out _⟩
    · have HN : Hid (insP p ((d1, d2), s) = none) := by show _ = _; rw [HNN.out, if_neg hbs]
      have l1 : (b.toList != s.toList) = !(decide (b = s)) := by rw [← str_dec]; rfl
      rw [decide_eq_false hbs] at t2 l1
      clear hbs
      go_wp2_with fail
      go_quiet (fail)
      go_wp2_with fail
      go_ret2
      exact ⟨.inr ⟨HN.out, rfl⟩, below_drewN HB2.out _⟩
end Go.Proofs.YtmdhlkkekidknaaGreatDoor

namespace Go.Proofs.YtmdhlkkekidknaaGreatDoor
open Go.RowKit Go.Shelf Go.Sort Go.Lib
attribute [local go_sem] Oper.semAt_some

instance : Inhabited Fl := ⟨(⟨#[]⟩, ⟨#[]⟩)⟩
theorem cmp_less : ∀ a b : List UInt8, decide (Lib.compareBytes a b < 0) = Op.bytesLess a b
  | [], [] => rfl
  | [], _ :: _ => rfl
  | _ :: _, [] => rfl
  | a :: x, b :: y => by
    have ih := cmp_less x y
    simp only [Lib.compareBytes, Op.bytesLess]
    by_cases h1 : a < b
    · simp [h1]
    · by_cases h2 : b < a
      · have h3 : (a == b) = false := by rw [beq_eq_false_iff_ne]; rintro rfl; exact h1 h2
        simp [h1, h2, h3]
      · have h3 : a = b := by
          apply UInt8.toNat_inj.1
          rw [UInt8.lt_iff_toNat_lt] at h1 h2
          omega
        subst h3
        rw [← ih]; simp [UInt8.lt_irrefl]
def cfO (x y : Fl) : Int := Lib.compareBytes x.1.data.toList y.1.data.toList
theorem lt_cfO (x y : Fl) : ltOf cfO x y = less x.1 y.1 := cmp_less _ _
theorem swoO : SWO (ltOf cfO) where
  irrefl x := by rw [lt_cfO]; exact lessB_irrefl _
  trans x y z h1 h2 := by rw [lt_cfO] at *; exact lessB_trans h1 h2
  ntrans x y z h1 h2 := by
    rw [lt_cfO] at *
    cases h3 : less x.1 z.1 with
    | false => rfl
    | true =>
      cases h4 : less z.1 y.1 with
      | true => rw [lessB_trans h3 h4] at h1; cases h1
      | false =>
        have := lessB_conn h2 h4
        rw [this] at h1; rw [h1] at h3; cases h3
set_option maxHeartbeats 1000000 in
theorem tload1_any (x y : Fl) (W : World) : Calls Tryz.prog 59 #[.agg (flC x).toArray, .agg (flC y).toArray] W fun e w' => e = .returned (.int .i64 (cfO x y)) ∧ ∃ q os', w' = grow (W.drewN q) os' := by
  have hcon := fun W' => Tryz.strings_Compare x.1 y.1 W'
  obtain ⟨a, a1⟩ := x
  obtain ⟨b, b1⟩ := y
  simp only [cfO, flC] at hcon ⊢
  generalize Lib.compareBytes a.data.toList b.data.toList = r at hcon ⊢
  have HC := Lib.hid hcon
  clear hcon
  go_enter Tryz.func59, Tryz.ntmps59
  go_wp2_with (go_at_call 60; refine (HC.out _).mono ?_; rintro e w' ⟨rfl, rfl⟩)
  go_ret
  exact ⟨rfl, 0, _, by rw [alloc_eq_grow, alloc_eq_grow, grow_grow]; rfl⟩
theorem putCells_takeK (off n : Nat) (d : Array Value) (cur : Array Value) (hd : d.size = n) (ho : off = 0) (hn : n ≤ cur.size) : (putCells id off d cur).toList.take n = d.toList := by
  subst ho hd
  apply List.ext_getElem?
  intro k
  rw [List.getElem?_take]
  by_cases hk : k < d.size
  · have hk2 : k < cur.size := by omega
    rw [if_pos hk]
    simp [putCells, hk, hk2]
  · rw [if_neg hk, List.getElem?_eq_none (by simp; omega)]
theorem flatK_flatF (ts : List Fl) : (flatK flC 2 ts.toArray).toList = flat flC ts := by
  apply List.ext_getElem?
  intro t
  by_cases ht : t < ts.length * 2
  · have hk : t / 2 < ts.length := by omega
    have hx : ts[t / 2]? = some ts[t / 2] := List.getElem?_eq_getElem hk
    have h1 := flat_get flC_len ts (t / 2) (t % 2) _ hx (by omega)
    rw [show t / 2 * 2 + t % 2 = t by omega] at h1
    have h2 : t < (flatK flC 2 ts.toArray).size := by simpa using ht
    rw [h1, Array.getElem?_toList, Array.getElem?_eq_getElem h2]
    have h3 := get_flatK flC 2 ts.toArray t (by simpa using ht)
    rw [getElem!_pos (flatK flC 2 ts.toArray) t h2] at h3
    rw [h3, show ts.toArray[t / 2]! = ts[t / 2] by simp [hk]]
    have h4 : t % 2 < (flC ts[t / 2]).length := by rw [flC_len]; omega
    rw [getElem!_pos (flC ts[t / 2]) (t % 2) h4, List.getElem?_eq_getElem h4]
  · rw [List.getElem?_eq_none (by simp; omega), List.getElem?_eq_none (by rw [flat_len flC_len]; omega)]
def SrtF (ts : List Fl) : Prop := ts.Pairwise (fun a b => less b.1 a.1 = false)
theorem own_lenF {w : World} {base n c : Nat} {A : Option Addr} {e : TypeId} {ts : List Fl} (h : w.ownsRow base e 2 (.slice A n c) n (flat flC ts)) : ts.length = n := by
  have := h.1; rw [flat_len flC_len] at this; omega
set_option maxHeartbeats 1000000 in
theorem sortFil_any (base n c : Nat) (A : Option Addr) (ts : List Fl) (w : World) (h : w.ownsRow base 68 2 (.slice A n c) n (flat flC ts)) (hn : n ≤ 1000000) :
    Calls Tryz.prog 58 #[.slice A n c, .func (.func 59) #[] #[]] w fun e w' => e = .returned (.tuple #[]) ∧ ∃ us, us.Perm ts ∧ SrtF us ∧ w'.ownsRow base 68 2 (.slice A n c) n (flat flC us) ∧ w.grownBy w' (Value.slice A n c).ownBlock := by
  have hl := own_lenF h
  have eg : ∀ args w, (callFunc 59 args).run Tryz.prog w = .ok (.enter 59 args) w := enters_of Tryz.func59 (by kernel_rfl) rfl
  rcases h.2 with ⟨hv, h0⟩ | ⟨g, cap, cur, hv, h1, h2, h3, h4, h5, h6⟩
  · simp only [Value.slice.injEq] at hv
    obtain ⟨rfl, _, rfl⟩ := hv
    subst h0
    obtain rfl : ts = [] := List.eq_nil_of_length_eq_zero hl
    have hc := AnyF.slices_SortFunc_none Tryz.sortFil none 0 (.func (.func 59) #[] #[]) w
    change Calls Tryz.prog 58 _ _ _ at hc
    refine hc.mono ?_
    rintro e w' ⟨rfl, rfl⟩
    exact ⟨rfl, [], .refl _, List.Pairwise.nil, h, rfl, rfl, rfl, Nat.le_refl _, fun _ _ _ => rfl⟩
  · simp only [Value.slice.injEq] at hv
    obtain ⟨rfl, _, rfl⟩ := hv
    have hsz : n * 2 ≤ cur.size := by omega
    have hlt := (Array.getElem?_eq_some_iff.1 h2).1
    have hH : HoldsK flC 2 w g 0 ts.toArray := by
      intro j hj
      have hj' : j < ts.length * 2 := by simpa using hj
      refine ⟨?_, by simp [World.frozen?, h2]⟩
      have h7 : (flat flC ts)[j]? = some ((flatK flC 2 ts.toArray)[j]!) := by
        rw [← flatK_flatF, Array.getElem?_toList, Array.getElem?_eq_getElem (by simpa using hj'), getElem!_pos (flatK flC 2 ts.toArray) j (by simpa using hj')]
      rw [← h6, List.getElem?_take, if_pos (by omega)] at h7
      show w.cell? ⟨g, 0 + j, none⟩ = _
      simp [World.cell?, h2]
      simpa using h7
    have hc := AnyQ.slices_SortFunc Tryz.sortFil 2 Tryz.isAgg68 Tryz.sizeOf68 flC flC_len (fun x v hv => by simp [flC] at hv; rcases hv with rfl | rfl <;> rfl) cfO swoO 59 #[] g 0 c ts.toArray w eg (fun _ _ _ _ x y => tload1_any x y _) hH hlt (by simp; omega)
    change Calls Tryz.prog 58 _ _ _ at hc
    rw [List.size_toArray, hl] at hc
    refine hc.mono ?_
    rintro e w' ⟨rfl, d', k, os, hp, hs, rfl⟩
    have hd : d'.size = n := by rw [hp.1]; simpa using hl
    have hpp : d'.toList.Perm ts := by
      have := hp.2.2
      have e1 : d'.extract 0 n = d' := by rw [← hd]; simp
      have e2 : ts.toArray.extract 0 n = ts.toArray := by rw [← hl]; simp
      rw [e1, e2] at this
      simpa using this
    have hso : SrtF d'.toList := by
      unfold SrtF
      rw [List.pairwise_iff_getElem]
      intro i j hi hj hij
      have hi' : i < d'.size := by simpa using hi
      have hj' : j < d'.size := by simpa using hj
      have := hs i j (Nat.zero_le _) hij (by omega)
      rw [lt_cfO, getElem!_pos d' j hj', getElem!_pos d' i hi'] at this
      simpa using this
    have hfs : (flatK flC 2 d').size = n * 2 := by rw [size_flatK, hd]
    refine ⟨rfl, d'.toList, hpp, hso, ⟨by rw [flat_len flC_len, Array.length_toList, hd], .inr ⟨g, c, putCells id 0 (flatK flC 2 d') cur, rfl, h1, ?_, h3, h4, by simp [putCells]; omega, ?_⟩⟩, rfl, rfl, rfl, by simp [sortWorldK, putRowK, grow, putRow, mapBlock, Sort.ahead], fun b hb hr => ?_⟩
    · simp only [sortWorldK, putRowK, grow, putRow, mapBlock, Sort.ahead]
      rw [Array.getElem?_append_left (by simpa using hlt), Array.getElem?_modify, if_pos rfl, h2]
      rfl
    · rw [putCells_takeK 0 (n * 2) _ cur hfs rfl hsz, ← flatK_flatF]
    · simp only [sortWorldK, putRowK, grow, putRow, mapBlock, Sort.ahead]
      rw [Array.getElem?_append_left (by simpa using hb), Array.getElem?_modify, if_neg (fun e => hr (by rw [e]; rfl))]
end Go.Proofs.YtmdhlkkekidknaaGreatDoor

namespace Go.Proofs.YtmdhlkkekidknaaGreatDoor
open Go.RowKit
variable {F : Fence} {n : Nat} {P : Program}

theorem wpIn_rangeTA {α : Type} {g : Operand} {ps : Array Tmp} {assign body : Code} {Q : Exit → Act → World → Prop} {a : Act} {w : World}
    (hro : F.round = none) (h1 : 1 ≤ n) {gf : Nat} {lb : Array Value} (hg : a.eval g = .func (.func gf) #[] lb) (hFg : F.fn gf) (eg : ∀ args w, (callFunc gf args).run P w = .ok (.enter gf args) w)
    {encs : α → Array Value} {Kp St : World → World → Prop} {Pf S Sp : List α → Prop} {w0 : World} (hseq : SeqT F (n - 1) P gf lb encs Kp St Pf S Sp (w.heap.size + 2) w0)
    (hKt : ∀ {A B C : World}, Kp A B → Kp B C → Kp A C) (hKb : ∀ (W : World) (l : Nat) (r : Loop) (o' : Obj), w.heap.size + 1 = l → W.heap[l]? = some (.loop r) → Kp W (W.putObj l o')) (hSo : ∀ A B, St A B → w.heap.size + 2 ≤ A.heap.size → Rec2 w.heap.size A B) (hb0 : Below w0.heap.size w0 w) (hps : ∀ x, (encs x).size = ps.size)
    (I : List α → World → Prop) (Ix : Code → List α → World → Prop) (hI : OwnFrom w.heap.size I) (hIx : ∀ c, OwnFrom w.heap.size (Ix c)) (hIS : ∀ pre A B, I pre A → St A B → I pre B) (h0 : I [] w) (As : α → Nat → World → Prop) (hAp : ∀ x b W l (r : Loop) (o : Obj), W.heap[l]? = some (.loop r) → As x b W → As x b (W.putObj l o)) (a₁ : α → Nat → Act)
    (hassign : ∀ (l : Nat) (pre : List α) (x : α) (W : World) (K : Act → World → Prop), w.heap.size + 2 ≤ W.heap.size → I pre W → (∀ b W', Rec2 w.heap.size W W' → Kp W W' → I pre W' → As x b W' → K (a₁ x b) W') →
      assign.wpIn (F.inRound l) (n - 1 - 1) P (Exit.then K (fun _ _ _ => False)) { tmps := (ps.zip (encs x)).foldl (fun t (p, v) => t.setIfInBounds p v) a.tmps, defers := [] } W)
    (hbody : ∀ (l : Nat) (pre : List α) (x : α) (b : Nat) (W : World), Pf (pre ++ [x]) → w.heap.size + 2 ≤ W.heap.size → I pre W → As x b W → body.wpIn (F.inRound l) (n - 1 - 1) P (ownPostT w.heap.size Kp I Ix (pre ++ [x]) W) (a₁ x b) W)
    (hdone : ∀ (D : Nat) (xs : List α) (W : World), w.heap.size ≤ D → S xs → I xs W → W.heap[D]? = some (.deferred (some [])) → Q .normal { a with defers := { target := .collected D, args := #[] } :: a.defers } W)
    (hstop : ∀ (D : Nat) (c : Code) (pre : List α) (W : World), w.heap.size ≤ D → Sp pre → Ix c pre W → W.heap[D]? = some (.deferred (some [])) → c.wpIn F n P Q { a with defers := { target := .collected D, args := #[] } :: a.defers } W) :
    (Code.rangeFunc g ps assign body).wpIn F n P Q a w := by
  refine wpIn_rangeFunc ?_
  intro fn hfn
  rw [hro]
  -- the loop's record in block L, the block of its deferred calls in block D
  obtain ⟨D, hD⟩ : ∃ D, w.heap.size = D := ⟨_, rfl⟩
  obtain ⟨rec, hrec⟩ : ∃ rec : LoopState → Option Code → Loop, rec = fun st pe => { state := st, pending := pe, fn, tmps := a.tmps, params := ps, assign, body, defers := D } := ⟨_, rfl⟩
  obtain ⟨W1, hW1⟩ : ∃ W1, (w.alloc (.deferred (some []))).alloc (.loop (rec .ready none)) = W1 := ⟨_, rfl⟩
  have hL1 : W1.heap[D + 1]? = some (.loop (rec .ready none)) := by
    rw [← hW1, ← hD]; have := World.alloc_heap_new (w.alloc (.deferred (some []))) (.loop (rec .ready none)); rwa [World.size_alloc] at this
  have hK1 : W1.heap[D]? = some (.deferred (some [])) := by
    rw [← hW1, ← hD]; exact (Below.heap_alloc _ _ _ (by simp)).trans (World.alloc_heap_new w _)
  have hI1 : I [] W1 := by rw [← hW1]; exact hI.alloc _ (hI.alloc _ h0)
  have hb1 : Below w0.heap.size w0 W1 := by
    rw [← hW1]; exact hb0.trans ((((Below.refl _ w).alloc (Nat.le_refl _) _).alloc (by simp) _).mono hb0.size)
  refine ⟨D + 1, [{ target := .collected D, args := #[] }], W1, { target := .fn (.func gf) lb, args := #[.func (.yield (D + 1)) #[] #[]] }, W1, gf,
    #[.func (.yield (D + 1)) #[] #[]] ++ lb, W1, ?_, ?_, ?_, ?_, fun _ => h1, ?_⟩
  · rw [← hW1, hrec, ← hD]; exact run_enterLoop_outer _ _ _ _ _
  · simp only [resolve, hg]
    simp [go_sem]
  · intro f' hf'; simp [Target.leads] at hf'; subst hf'; exact hFg
  · simp [invoke, go_sem, eg]
  · refine (hseq (D + 1)
      (fun pre W => I pre W ∧ W.heap[D + 1]? = some (.loop (rec .ready none)) ∧ W.heap[D]? = some (.deferred (some [])))
      (fun pre W => ∃ c, Ix c pre W ∧ W.heap[D + 1]? = some (.loop (rec .done (some c))) ∧ W.heap[D]? = some (.deferred (some [])))
      W1 hb1 (by rw [← hW1]; simp)
      (fun pre A B hs hst => by
        have hz2 := (Array.getElem?_eq_some_iff.1 hs.2.1).1
        have hr := hSo A B hst (by omega)
        rw [hD] at hr
        exact ⟨hIS pre A B hs.1 hst, hr.2.trans hs.2.1, hr.1.trans hs.2.2⟩)
      ?_ ⟨hI1, hL1, hK1⟩).mono ?_
    · rintro pre x W hpf ⟨hi, hl, hk⟩
      have hlt : D + 1 < W.heap.size := (Array.getElem?_eq_some_iff.1 hl).1
      have hy := run_yield (P := P) (args := encs x) hl (by rw [hrec]; exact hps x)
      rw [hrec] at hy
      refine ⟨fn, _, assign, body, hy, roundIn_of_wpIn hfn (hassign _ pre x W _ (by omega) hi fun b V hrv hkv hiv hav => ?_)⟩
      rw [hD] at hrv
      have hlv : V.heap[D + 1]? = some (.loop (rec .ready none)) := hrv.2.trans hl
      have hkd : V.heap[D]? = some (.deferred (some [])) := hrv.1.trans hk
      have hltv : D + 1 < V.heap.size := (Array.getElem?_eq_some_iff.1 hlv).1
      refine ⟨_, run_beginRound hlv (by rw [hrec]), ?_⟩
      obtain ⟨W2, hW2⟩ : ∃ W2, V.putObj (D + 1) (.loop { rec .ready none with state := .busy }) = W2 := ⟨_, rfl⟩
      have hl2 : W2.heap[D + 1]? = some (.loop { rec .ready none with state := .busy }) := by rw [← hW2]; exact World.putObj_heap_same hltv
      have hk2 : W2.heap[D]? = some (.deferred (some [])) := by rw [← hW2]; exact (World.putObj_heap_other (by omega)).trans hkd
      have hw2 : Kp W W2 := by rw [← hW2]; exact hKt hkv (hKb _ _ _ _ (by omega) hlv)
      have hi2 : I pre W2 := by rw [← hW2]; exact hI.putObj _ hiv (by omega) hlv rfl
      have ha2 : As x b W2 := by rw [← hW2]; exact hAp _ _ _ _ _ _ hlv hav
      rw [hW2]
      refine wpIn_mono (hbody _ pre x b _ hpf (by have := (Array.getElem?_eq_some_iff.1 hl2).1; omega) hi2 ha2) ?_
      have fin : ∀ (jump : Option Code) (W3 : World), Rec2 w.heap.size W2 W3 →
          (Instr.endRound (D + 1) jump).run P W3 = .ok (.bool jump.isNone) (W3.putObj (D + 1) (.loop (rec (if jump.isNone then .ready else .done) jump))) ∧
          W3.heap[D + 1]? = some (.loop { rec .ready none with state := .busy }) ∧
          (W3.putObj (D + 1) (.loop (rec (if jump.isNone then .ready else .done) jump))).heap[D + 1]? = some (.loop (rec (if jump.isNone then .ready else .done) jump)) ∧
          (W3.putObj (D + 1) (.loop (rec (if jump.isNone then .ready else .done) jump))).heap[D]? = some (.deferred (some [])) := fun jump W3 hk3 => by
        rw [hD] at hk3
        have hl3 := hk3.2.trans hl2
        have := run_endRound (P := P) jump hl3
        rw [hrec] at this ⊢
        exact ⟨this, by rw [hrec] at hl3; exact hl3, World.putObj_heap_same (Array.getElem?_eq_some_iff.1 hl3).1, (World.putObj_heap_other (by omega)).trans (hk3.1.trans hk2)⟩
      rintro e a3 W3 hp
      cases e with
      | normal =>
        obtain ⟨hk3, hkp3, hi3⟩ := hp
        obtain ⟨hr, hl3, hl4, hk4⟩ := fin none W3 hk3
        exact ⟨_, _, hr, .inl ⟨rfl, ⟨hI.putObj _ hi3 (by omega) hl3 rfl, hl4, hk4⟩, hKt (hKt hw2 hkp3) (hKb _ _ _ _ (by omega) hl3)⟩⟩
      | ret =>
        obtain ⟨hk3, hi3⟩ := hp
        obtain ⟨hr, hl3, hl4, hk4⟩ := fin (some .ret) W3 hk3
        exact ⟨_, _, hr, .inr ⟨rfl, .ret, (hIx _).putObj _ hi3 (by omega) hl3 rfl, hl4, hk4⟩⟩
      | exit id =>
        obtain ⟨hk3, hi3⟩ := hp
        obtain ⟨hr, hl3, hl4, hk4⟩ := fin (some (.exit id)) W3 hk3
        exact ⟨_, _, hr, .inr ⟨rfl, .exit id, (hIx _).putObj _ hi3 (by omega) hl3 rfl, hl4, hk4⟩⟩
      | goto t =>
        obtain ⟨hk3, hi3⟩ := hp
        obtain ⟨hr, hl3, hl4, hk4⟩ := fin (some (.goto t)) W3 hk3
        exact ⟨_, _, hr, .inr ⟨rfl, .goto t, (hIx _).putObj _ hi3 (by omega) hl3 rfl, hl4, hk4⟩⟩
      | panic ch => exact hp.elim
      | outgrown => exact hp.elim
    · rintro e W2 ⟨⟨v, rfl⟩, (⟨xs, hS, hi, hl, hk⟩ | ⟨pre, hSp, c, hi, hl, hk⟩)⟩
      · exact ⟨none, _, by have := run_endLoop (P := P) hl (by rw [hrec]; simp); rw [hrec] at this; exact this, hdone _ xs _ (by omega) hS (hI.putObj _ hi (by omega) hl rfl) ((World.putObj_heap_other (by omega)).trans hk)⟩
      · exact ⟨some c, _, by have := run_endLoop (P := P) hl (by rw [hrec]; simp); rw [hrec] at this; exact this, hstop _ c pre _ (by omega) hSp ((hIx c).putObj _ hi (by omega) hl rfl) ((World.putObj_heap_other (by omega)).trans hk)⟩
end Go.Proofs.YtmdhlkkekidknaaGreatDoor

namespace Go.Proofs.YtmdhlkkekidknaaGreatDoor
open Go.RowKit Go.Maps
attribute [local go_sem] Oper.semAt_some

theorem own_row {W : World} {base size n : Nat} {e : TypeId} {v : Value} {xs : List Value} (h : W.ownsRow base e size v n xs) {k : Nat} (hk : v.ownBlock = some k) : base ≤ k ∧ ∃ cur, W.heap[k]? = some (.cells cur e (0, 0)) := by
  rcases h.2 with ⟨rfl, _⟩ | ⟨g, cap, cur, rfl, h1, h2, _⟩
  · cases hk
  · cases hk; exact ⟨h1, cur, h2⟩
theorem own_keep {W W' : World} {base size n : Nat} {e : TypeId} {v : Value} {xs : List Value} (h : W.ownsRow base e size v n xs) (hk : ∀ k, v.ownBlock = some k → W'.heap[k]? = W.heap[k]?) : W'.ownsRow base e size v n xs := by
  refine ⟨h.1, ?_⟩
  rcases h.2 with h0 | ⟨g, cap, cur, rfl, h1, h2, h3⟩
  · exact .inl h0
  · exact .inr ⟨g, cap, cur, rfl, h1, (hk g rfl).trans h2, h3⟩

end Go.Proofs.YtmdhlkkekidknaaGreatDoor

namespace Go.Proofs.YtmdhlkkekidknaaGreatDoor
open Go.RowKit Go.Maps Go.Sort Go.Shelf
attribute [local go_sem] Oper.semAt_some

theorem keys_nodup {w : World} {P : Program} {k : TypeId} {b N : Nat} {D : DataW Value} (hown : w.ownsMap P k rawR b N D) (hk : P.underlying k = some .string) : (strKeys D).Nodup := by
  obtain ⟨es, hD, hpw, _⟩ := hown.entries (string_keyed hk)
  obtain ⟨es', hD', hko⟩ := hown.keysOf
  obtain rfl : es = es' := by rw [hD] at hD'; simpa using hD'
  subst hD
  show (es.map fun p => strOf p.1).Nodup
  refine List.pairwise_map.2 (hpw.imp_of_mem fun {p q} hp' hq' hne e => hne ?_)
  obtain ⟨v, hv⟩ := hko p hp'
  obtain ⟨u, hu⟩ := hko q hq'
  obtain ⟨a, _, ha, _⟩ := Maps.keyOf_str hk hv
  obtain ⟨b, _, hb, _⟩ := Maps.keyOf_str hk hu
  rw [ha, hb] at e ⊢
  exact congrArg _ e
structure KeysR (g : ByteArray → Option Value) (N : Nat) (ks : List ByteArray) : Prop where
  nod : ks.Nodup
  mem : ∀ x, x ∈ ks ↔ (g x).isSome = true
  few : ks.length ≤ N
theorem Rm.keys {w : World} {P : Program} {k : TypeId} {b N : Nat} {g : ByteArray → Option Value} (h : Rm w P k b N g) (hk : P.underlying k = some .string) :
    ∃ D : DataW Value, w.ownsMap P k rawR b N D ∧ Maps.size D ≤ N ∧ ∀ ss : List (List UInt8), ss.Perm (strKeys D) ∧ (∀ x, x ∈ ss ↔ Maps.has D (.string x) = true) → KeysR g N (ss.map ub) := by
  obtain ⟨D, h1, h2⟩ := h
  have hsz : Maps.size D ≤ N := h1.size_le
  refine ⟨D, h1, hsz, fun ss hs => ?_⟩
  have hnd := (hs.1.nodup_iff).2 (keys_nodup h1 hk)
  refine ⟨?_, fun x => ?_, ?_⟩
  · unfold List.Nodup
    rw [List.pairwise_map]
    exact hnd.imp (fun hne e => hne (by have := congrArg bl e; simpa [bl, ub] using this))
  · rw [← (h2 x).1, ← hs.2, List.mem_map]
    constructor
    · rintro ⟨l, hl, rfl⟩; simpa [ub] using hl
    · intro h; exact ⟨bl x, h, by rw [ub_bl]⟩
  · rw [List.length_map, hs.1.length_eq]
    obtain ⟨es, rfl, _⟩ := h1.keysOf
    have : (strKeys (DataW.map es)).length = Maps.size (DataW.map es) := by simp [strKeys, Maps.size]
    omega
theorem ownsRow_other_box {w : World} {base size n b : Nat} {e t : TypeId} {v u : Value} {xs : List Value} (h : w.ownsRow base e size v n xs) (hb : w.heap[b]? = some (.cells #[u] t (0, 0))) (x : Value) (hne : e ≠ t := by decide) : (w.setCell ⟨b, 0, none⟩ x).ownsRow base e size v n xs := by
  refine h.kept (row := some b) ⟨rfl, rfl, rfl, by simp, fun k _ hk => Below.heap_setCell _ _ _ k (fun e => hk (by rw [e]))⟩ ?_
  cases hv : v.ownBlock with
  | none => exact .inl rfl
  | some k =>
    refine .inr fun he => ?_
    obtain ⟨_, cur, hc⟩ := own_row h hv
    cases he
    rw [hb] at hc
    cases hc
    exact hne rfl
theorem enc_ub (x : List UInt8) : encStr x = .string (ub x) := rfl
set_option maxRecDepth 100000 in
set_option maxHeartbeats 4000000 in
theorem appSeq_any (gf : Nat) (lb : Array Value) (eg : ∀ args w, (callFunc gf args).run Tryz.prog w = .ok (.enter gf args) w) (S Sp : List (List UInt8) → Prop) (N : Nat) (A : Option Addr) (n c : Nat) (l0 : List ByteArray) (w0 w : World)
    (hrow : w.ownsRow w0.heap.size 9 1 (.slice A n c) n (strs l0)) (hbw : Below w0.heap.size w0 w) (hn : n + N ≤ 1000000) (hseq : SeqStops Fence.wide 5 Tryz.prog gf lb encStr S Sp N w) :
    Calls Tryz.prog 90 #[.slice A n c, .func (.func gf) #[] lb] w fun e w' =>
      ∃ A' c' ss, e = .returned (.slice A' (n + ss.length) c') ∧ S ss ∧ w'.ownsRow w0.heap.size 9 1 (.slice A' (n + ss.length) c') (n + ss.length) (strs (l0 ++ ss.map ub)) ∧ Below w0.heap.size w0 w' := by
  refine (callsIn_wide (n := 6)).1 ?_
  have hf1 : Fence.wide.fn gf := trivial
  refine callsIn_of_wp_marks Tryz.func90 rfl trivial ?_ rfl
  simp only [Tryz.ntmps90, List.size_toArray, List.length_cons, List.length_nil, Nat.reduceAdd, Nat.reduceSub, Array.replicate_succ, Array.replicate_zero, List.push_toArray, List.append_toArray, List.nil_append, List.cons_append]
  have HROW := Lib.hid hrow; have HBW := Lib.hid hbw; have HSEQ := Lib.hid hseq
  have zbw := hbw.size
  clear hrow hbw hseq
  gi_wp2
  obtain ⟨W2, hW2⟩ : ∃ W2, w.alloc (.cells #[.slice A n c] 96) = W2 := ⟨_, rfl⟩
  have hb2 : Below w0.heap.size w0 W2 := by rw [← hW2]; exact HBW.out.alloc zbw _
  have hb2' : Below w.heap.size w W2 := by rw [← hW2]; exact (Below.refl _ w).alloc (Nat.le_refl _) _
  have g1 : W2.heap[w.heap.size]? = some (.cells #[.slice A n c] 96 (0, 0)) := by rw [← hW2]; exact World.alloc_heap_new w _
  have hy2 : W2.heap.size = w.heap.size + 1 := by rw [← hW2]; simp
  have hr2 : W2.ownsRow w0.heap.size 9 1 (.slice A n c) n (strs l0) := by
    rw [← hW2]
    exact HROW.out.kept (World.grownBy_alloc w _ none) (by cases hv : (Value.slice A n c).ownBlock with | none => exact .inl rfl | some k => exact .inr (by simp))
  rw [hW2]
  clear hW2
  refine wpIn_rangeFunc_ownF (α := List UInt8) (F := Fence.wide) (n := 6) rfl (by omega) (gf := gf) (lb := lb) rfl trivial eg (encs := fun x => #[encStr x]) (Kp := KeepsWalks) (S := S) (Sp := Sp) (N := N) (w0 := w) HSEQ.out (fun h k => walksK_t h k) (fun W l o o' h1 h2 h3 h4 => walksK_b (w := W2) W l o o' h1 h2 h3 h4) hb2' (fun _ => rfl)
    (fun pre W => ∃ Aq cq, W.heap[w.heap.size]? = some (.cells #[.slice Aq (n + pre.length) cq] 96 (0, 0)) ∧ W.ownsRow w0.heap.size 9 1 (.slice Aq (n + pre.length) cq) (n + pre.length) (strs (l0 ++ pre.map ub)) ∧ Below w0.heap.size w0 W)
    (fun _ _ _ => False)
    ?hI ?hIx ⟨A, c, g1, by simpa using hr2, hb2⟩
    (fun x => { tmps := #[.slice A n c, .func (.func gf) #[] lb, .pointer (some ⟨w.heap.size, 0, none⟩), undef, .slice none 0 0, encStr x, .func (.func gf) #[] lb, encStr x, undef, undef, undef, undef, undef], defers := [] }) ?assign ?body ?done ?stop
  case hI =>
    rintro pre A1 C row ⟨Aq, cq, h0, h1, h2⟩ hg hr
    refine ⟨Aq, cq, one_grown h0 hg (fun e => ?_), h1.kept hg ?_, h2.grown hg h2.size (fun k e => ?_)⟩
    · have := (hr _ e.symm).1; omega
    · cases hv : (Value.slice Aq (n + pre.length) cq).ownBlock with
      | none => exact .inl rfl
      | some k =>
        refine .inr fun e => ?_
        obtain ⟨_, cur, hcur⟩ := own_row h1 hv
        obtain ⟨_, o, ho, hc⟩ := hr _ e.symm
        rw [hcur] at ho; cases ho; cases hc
    · have := (hr _ e).1; omega
  case hIx => rintro c pre A1 C row hf _ _; exact hf
  case stop => rintro D c pre W hD hS hf hK; exact hf.elim
  case assign =>
    intro l x W K hK
    have HKK := Lib.hid hK
    clear hK
    simp only [enc_ub]
    gi_wp2
    exact HKK.out
  case body =>
    rintro l pre y W ⟨Aq, cq, h0, h1, h2⟩ hlen
    have c0 := cell_of_one h0
    have f0 := free_of_one h0
    have H0 := Lib.hid h0; have H1 := Lib.hid h1; have H2 := Lib.hid h2
    have hzW : w.heap.size < W.heap.size := (Array.getElem?_eq_some_iff.1 h0).1
    have zW0 := h2.size
    obtain ⟨i0, hi, hz0, hz1', hz2'⟩ := info_parts infoStr
    have Hi := Lib.hid hi; have Hz0 := Lib.hid hz0; have Hz1 := Lib.hid hz1'; have Hz2 := Lib.hid hz2'
    clear h0 h1 h2 g1 hb2 hb2' hr2 hi hz0 hz1' hz2'
    simp only [enc_ub]
    gi_wp2_with (gi_at_builtin; refine halt_ ?_)
    refine unhalt ?_
    refine wpListIn_append_sl (base := w0.heap.size) (size := 1) rfl (.tmp 8) (.tmp 10) 96 rfl 9 i0 _ 16 Tryz.underlying96 Hi.out Hz0.out Hz1.out Hz2.out rfl (by decide) (.slice Aq (n + pre.length) cq) (n + pre.length) (strs (l0 ++ pre.map ub)) rfl ?own (W.heap.size + 1) _ 1 _ [.string (ub y)] rfl ?nw (by simp [Value.oneCell']) ?l1 ?l2 ?l3 ?_
    case own => exact H1.out.kept (World.grownBy_alloc W _ none) (by cases hv : (Value.slice Aq (n + pre.length) cq).ownBlock with | none => exact .inl rfl | some k => exact .inr (by simp))
    case nw => exact ⟨rfl, fun _ => ⟨W.heap.size, 0, rfl, Nat.lt_succ_self _, fun j u hu => by have := new_cell W 9 (ub y) j u hu; rwa [Addr.add_lit] at this⟩⟩
    case l1 => unfold maxLen; omega
    case l2 => omega
    case l3 => simp; omega
    intro A4 c4 w4 ho4 hg4 hc41 hc42
    have HO4 : Hid (w4.ownsRow w0.heap.size 9 1 (.slice A4 (n + (pre.length + 1)) c4) (n + (pre.length + 1)) (strs (l0 ++ (pre ++ [y]).map ub))) := by
      show World.ownsRow _ _ _ _ _ _ _
      have e : strs (l0 ++ (pre ++ [y]).map ub) = strs (l0 ++ pre.map ub) ++ [.string (ub y)] := by simp [strs]
      rw [e]; exact ho4
    have HGE : Hid (∀ k, (Value.slice Aq (n + pre.length) cq).ownBlock = some k → w0.heap.size ≤ k ∧ ∃ cur, W.heap[k]? = some (.cells cur 9 (0, 0))) := fun k hk => own_row H1.out hk
    have HNE : Hid (∀ k, (Value.slice Aq (n + pre.length) cq).ownBlock = some k → k ≠ w.heap.size) := fun k hk e => by
      obtain ⟨_, cur, hc⟩ := HGE.out k hk
      rw [e, H0.out] at hc
      cases hc
    have HX4 : Hid (w4.heap[w.heap.size]? = some (.cells #[.slice Aq (n + pre.length) cq] 96 (0, 0))) := one_grown ((Below.heap_alloc W _ _ hzW).trans H0.out) hg4 (fun e => HNE.out _ e.symm rfl)
    have c4' := cell_of_one HX4.out
    have f4' := free_of_one HX4.out
    have HB4 : Hid (Below w0.heap.size w0 w4) := (H2.out.alloc zW0 _).grown hg4 (by simp; omega) (fun k hk => (HGE.out k hk).1)
    have HKO : Hid (KeepsOthers W (w4.setCell ⟨w.heap.size, 0, none⟩ (.slice A4 (n + (pre.length + 1)) c4))) := ((KeepsOthers.alloc W _).trans (KeepsOthers.of_grownBy hg4 (fun j o hj ho => by
      obtain ⟨_, cur, hc⟩ := HGE.out j hj
      rw [(Below.heap_alloc W _ j (Array.getElem?_eq_some_iff.1 hc).1).trans hc] at ho
      cases ho; rfl))).trans (KeepsOthers.setCell _ _ _)
    have HO5 : Hid ((w4.setCell ⟨w.heap.size, 0, none⟩ (.slice A4 (n + (pre.length + 1)) c4)).ownsRow w0.heap.size 9 1 (.slice A4 (n + (pre.length + 1)) c4) (n + (pre.length + 1)) (strs (l0 ++ (pre ++ [y]).map ub))) := ownsRow_other_box HO4.out HX4.out _
    have hea : n + pre.length + 1 = n + (pre.length + 1) := by omega
    clear ho4 hg4 c0 f0
    gi_wp2
    refine ⟨HKO.out, HKO.out.walks, A4, c4, ?_, ?_, ?_⟩
    · rw [List.length_append]; exact one_setCell HX4.out
    · rw [List.length_append]; exact HO5.out
    · exact HB4.out.setCell (p := ⟨w.heap.size, 0, none⟩) zbw _
  case done =>
    rintro D xs W hD hS ⟨Aq, cq, h0, h1, h2⟩ hK
    have c0 := cell_of_one h0
    have H1 := Lib.hid h1; have HK := Lib.hid hK; have H2 := Lib.hid h2; have HS := Lib.hid hS
    clear h0 h1 h2 hK hS g1 hb2 hb2' hr2
    gi_wp2
    refine ⟨by simp, .inl ⟨_, _, rfl, run_takeDeferred HK.out, ?_⟩⟩
    refine ⟨_, results_tmp rfl _ _ _, Aq, cq, xs, rfl, HS.out, ?_, ?_⟩
    · exact H1.out.kept (grownBy_putObj' _ _ _) (by
        cases hv : (Value.slice Aq (n + xs.length) cq).ownBlock with
        | none => exact .inl rfl
        | some k =>
          refine .inr fun e => ?_
          cases e
          obtain ⟨_, cur, hc⟩ := own_row H1.out hv
          rw [HK.out] at hc; cases hc)
    · exact H2.out.grown (grownBy_putObj' _ _ _) H2.out.size (fun k e => by cases e; omega)

theorem keysF_any (b : Nat) (w : World) : Calls Tryz.prog 89 #[.map (some b)] w fun e w' => e = .returned (.func (.func 128) #[] #[.pointer (some ⟨w.heap.size, 0, none⟩)]) ∧ w' = w.alloc (.cells #[.map (some b)] 124) := by
  go_enter Tryz.func89, Tryz.ntmps89
  go_wp2_with fail
  go_ret
  exact ⟨rfl, rfl⟩
theorem keysF_seq {Bm b N : Nat} {g : ByteArray → Option Value} {w : World} (hM : Rm w Tryz.prog 9 b N g) (hc : w.cell? ⟨Bm, 0, none⟩ = some (.map (some b))) (hB : Bm < w.heap.size) :
    ∃ S Sp, SeqStops Fence.wide 5 Tryz.prog 128 #[.pointer (some ⟨Bm, 0, none⟩)] encStr S Sp N w ∧ ∀ ss, S ss → KeysR g N (ss.map ub) := by
  obtain ⟨D, h1, h2, h3⟩ := hM.keys Tryz.underlying9
  refine ⟨_, _, fun l J Jx W hW hJ hJx hY h0 => AnyZ.keys_stops (ρ := Tryz.keysF_ren) { Tryz.keysF with } Fence.wide 5 trivial rfl (by omega) Bm b N D w hB hc h1 l J Jx W hW hJ hJx (fun pre x W1 hj hl => hY pre x W1 hj (Nat.lt_of_lt_of_le hl h2)) h0, h3⟩
theorem enterF : ∀ args w, (callFunc 128 args).run Tryz.prog w = .ok (.enter 128 args) w := enters_of Tryz.func128 (by kernel_rfl) rfl
def ApsFE (g : ByteArray → Option Value) (N n : Nat) (l0 : List ByteArray) (w0 : World) (e : Ending) (w' : World) : Prop :=
  ∃ A c ks, e = .returned (.slice A (n + ks.length) c) ∧ KeysR g N ks ∧ w'.ownsRow w0.heap.size 9 1 (.slice A (n + ks.length) c) (n + ks.length) (strs (l0 ++ ks)) ∧ Below w0.heap.size w0 w'
theorem apsF_any (Bm b N : Nat) (g : ByteArray → Option Value) (A : Option Addr) (n c : Nat) (l0 : List ByteArray) (w0 w : World) (hM : Rm w Tryz.prog 9 b N g) (hc : w.cell? ⟨Bm, 0, none⟩ = some (.map (some b))) (hB : Bm < w.heap.size)
    (hrow : w.ownsRow w0.heap.size 9 1 (.slice A n c) n (strs l0)) (hbw : Below w0.heap.size w0 w) (hn : n + N ≤ 1000000) :
    Calls Tryz.prog 90 #[.slice A n c, .func (.func 128) #[] #[.pointer (some ⟨Bm, 0, none⟩)]] w (ApsFE g N n l0 w0) := by
  obtain ⟨S, Sp, h1, h2⟩ := keysF_seq hM hc hB
  refine (appSeq_any _ _ enterF S Sp N A n c l0 w0 w hrow hbw hn h1).mono ?_
  rintro e w' ⟨A', c', ss, rfl, hS, hr, hb⟩
  exact ⟨A', c', ss.map ub, by rw [List.length_map], h2 ss hS, by rw [List.length_map]; exact hr, hb⟩

theorem keysB_any (b : Nat) (w : World) : Calls Tryz.prog 91 #[.map (some b)] w fun e w' => e = .returned (.func (.func 129) #[] #[.pointer (some ⟨w.heap.size, 0, none⟩)]) ∧ w' = w.alloc (.cells #[.map (some b)] 123) := by
  go_enter Tryz.func91, Tryz.ntmps91
  go_wp2_with fail
  go_ret
  exact ⟨rfl, rfl⟩
theorem keysB_seq {Bm b N : Nat} {g : ByteArray → Option Value} {w : World} (hM : Rm w Tryz.prog 9 b N g) (hc : w.cell? ⟨Bm, 0, none⟩ = some (.map (some b))) (hB : Bm < w.heap.size) :
    ∃ S Sp, SeqStops Fence.wide 5 Tryz.prog 129 #[.pointer (some ⟨Bm, 0, none⟩)] encStr S Sp N w ∧ ∀ ss, S ss → KeysR g N (ss.map ub) := by
  obtain ⟨D, h1, h2, h3⟩ := hM.keys Tryz.underlying9
  refine ⟨_, _, fun l J Jx W hW hJ hJx hY h0 => AnyZ.keys_stops (ρ := Tryz.keysB_ren) { Tryz.keysB with } Fence.wide 5 trivial rfl (by omega) Bm b N D w hB hc h1 l J Jx W hW hJ hJx (fun pre x W1 hj hl => hY pre x W1 hj (Nat.lt_of_lt_of_le hl h2)) h0, h3⟩
theorem enterB : ∀ args w, (callFunc 129 args).run Tryz.prog w = .ok (.enter 129 args) w := enters_of Tryz.func129 (by kernel_rfl) rfl
def ApsBE (g : ByteArray → Option Value) (N n : Nat) (l0 : List ByteArray) (w0 : World) (e : Ending) (w' : World) : Prop :=
  ∃ A c ks, e = .returned (.slice A (n + ks.length) c) ∧ KeysR g N ks ∧ w'.ownsRow w0.heap.size 9 1 (.slice A (n + ks.length) c) (n + ks.length) (strs (l0 ++ ks)) ∧ Below w0.heap.size w0 w'
theorem apsB_any (Bm b N : Nat) (g : ByteArray → Option Value) (A : Option Addr) (n c : Nat) (l0 : List ByteArray) (w0 w : World) (hM : Rm w Tryz.prog 9 b N g) (hc : w.cell? ⟨Bm, 0, none⟩ = some (.map (some b))) (hB : Bm < w.heap.size)
    (hrow : w.ownsRow w0.heap.size 9 1 (.slice A n c) n (strs l0)) (hbw : Below w0.heap.size w0 w) (hn : n + N ≤ 1000000) :
    Calls Tryz.prog 90 #[.slice A n c, .func (.func 129) #[] #[.pointer (some ⟨Bm, 0, none⟩)]] w (ApsBE g N n l0 w0) := by
  obtain ⟨S, Sp, h1, h2⟩ := keysB_seq hM hc hB
  refine (appSeq_any _ _ enterB S Sp N A n c l0 w0 w hrow hbw hn h1).mono ?_
  rintro e w' ⟨A', c', ss, rfl, hS, hr, hb⟩
  exact ⟨A', c', ss.map ub, by rw [List.length_map], h2 ss hS, by rw [List.length_map]; exact hr, hb⟩

def CollFE (g : ByteArray → Option Value) (N : Nat) (w : World) (e : Ending) (w' : World) : Prop :=
  ∃ A c ks, e = .returned (.slice A ks.length c) ∧ KeysR g N ks ∧ w'.ownsRow w.heap.size 9 1 (.slice A ks.length c) ks.length (strs ks) ∧ Below w.heap.size w w'
theorem collF_any (Bm b N : Nat) (g : ByteArray → Option Value) (w : World) (hM : Rm w Tryz.prog 9 b N g) (hc : w.cell? ⟨Bm, 0, none⟩ = some (.map (some b))) (hB : Bm < w.heap.size) (hn : N ≤ 1000000) :
    Calls Tryz.prog 88 #[.func (.func 128) #[] #[.pointer (some ⟨Bm, 0, none⟩)]] w (CollFE g N w) := by
  have HA := Lib.hid (apsF_any Bm b N g none 0 0 [] w w hM hc hB (World.ownsRow_nil _ _ _ _) (Below.refl _ _) (by omega))
  clear hM
  go_enter Tryz.func88, Tryz.ntmps88
  go_wp2_with (go_at_call 90; refine HA.out.mono ?_; rintro e w1 ⟨A, c, ks, rfl, h⟩; rw [Nat.zero_add, List.nil_append] at h; have HH := Lib.hid h; clear h)
  go_ret
  exact ⟨A, c, ks, rfl, HH.out⟩
end Go.Proofs.YtmdhlkkekidknaaGreatDoor

namespace Go.Proofs.YtmdhlkkekidknaaGreatDoor
open Go.RowKit

structure Fgr (w : World) (base : Nat) (e : TypeId) (f : ByteArray → Value) (L : ByteArray → List Fl) : Prop where
  own : ∀ i, w.ownsRow base e 2 (f i) (L i).length (flat flC (L i))
  apart : ∀ i j k, (f i).ownBlock = some k → (f j).ownBlock = some k → i = j
section
variable {w w' : World} {base : Nat} {e : TypeId} {f : ByteArray → Value} {L : ByteArray → List Fl}
theorem Fgr.start (w : World) (base : Nat) (e : TypeId) : Fgr w base e (fun _ => .slice none 0 0) (fun _ => []) :=
  ⟨fun _ => World.ownsRow_nil w base e 2, fun i j k h => by cases h⟩
theorem Fgr.kept {row : Option Nat} (h : Fgr w base e f L) (hg : w.grownBy w' row) (hr : ∀ i, (f i).ownBlock = none ∨ (f i).ownBlock ≠ row) : Fgr w' base e f L :=
  ⟨fun i => (h.own i).kept hg (hr i), h.apart⟩
theorem Fgr.below (h : Fgr w base e f L) (hb : Below w.heap.size w w') : Fgr w' base e f L :=
  h.kept (row := none) ⟨hb.os, hb.tape, hb.output, hb.size, fun k hk _ => hb.block k hk⟩ (fun i => by cases hv : (f i).ownBlock with | none => exact .inl rfl | some k => exact .inr (by simp))
theorem Fgr.other {b : Nat} (h : Fgr w base e f L) (hg : w.grownBy w' (some b)) (hb : b < base) : Fgr w' base e f L :=
  h.kept hg (fun i => by
    cases hv : (f i).ownBlock with
    | none => exact .inl rfl
    | some k => exact .inr (fun e => by have := ((h.own i).lt k hv).1; cases e; omega))
theorem Fgr.app (h : Fgr w base e f L) (i : ByteArray) {x : Fl} {g cap : Nat} (ho : w'.ownsRow base e 2 (.slice (some ⟨g, 0, none⟩) ((L i).length + 1) cap) ((L i).length + 1) (flat flC (L i) ++ flC x)) (hg : w.grownBy w' (f i).ownBlock)
    (hat : (f i).ownBlock = some g ∨ g = w.heap.size) : Fgr w' base e (fun j => if j = i then .slice (some ⟨g, 0, none⟩) ((L i).length + 1) cap else f j) (fun j => if j = i then L i ++ [x] else L j) := by
  have hlt : ∀ j k, (f j).ownBlock = some k → k < w.heap.size := fun j k hk => ((h.own j).lt k hk).2
  refine ⟨fun j => ?_, fun j l k hj hl => ?_⟩
  · by_cases hji : j = i
    · simp only [hji, if_true]
      rw [List.length_append]
      have : flat flC (L i ++ [x]) = flat flC (L i) ++ flC x := by rw [flat_append]; simp [flat]
      rw [this]
      exact ho
    · simp only [hji, if_false]
      refine (h.own j).kept hg ?_
      cases hv : (f j).ownBlock with
      | none => exact .inl rfl
      | some k => exact .inr (fun e' => hji (h.apart j i k hv e'.symm))
  · have new : ∀ j, j ≠ i → (f j).ownBlock = some g → False := fun j hj hb => by
      rcases hat with hat | hat
      · exact hj (h.apart j i g hb hat)
      · have := hlt j g hb; omega
    by_cases hji : j = i
    · by_cases hli : l = i
      · rw [hji, hli]
      · simp only [hji, if_true, hli, if_false] at hj hl
        have : g = k := by simpa [Value.ownBlock] using hj
        exact (new l hli (this ▸ hl)).elim
    · by_cases hli : l = i
      · simp only [hji, if_false, hli, if_true] at hj hl
        have : g = k := by simpa [Value.ownBlock] using hl
        exact (new j hji (this ▸ hj)).elim
      · simp only [hji, hli, if_false] at hj hl
        exact h.apart j l k hj hl
end
theorem inD_snoc (l : List Fl) (f : Fl) (s : ByteArray) : inD (l ++ [f]) s = inD l s ++ (if deN f.1 = true ∧ fsN f.1 = s then [(rsN f.1, f.2)] else []) := by
  unfold inD
  rw [List.filter_append, List.map_append]
  congr 1
  by_cases h : deN f.1 = true ∧ fsN f.1 = s
  · rw [if_pos h, List.filter_cons_of_pos (by simp [h.1, h.2])]; rfl
  · rw [if_neg h, List.filter_cons_of_neg (by simpa using h)]; rfl
theorem look9_snoc {l : List Fl} {f : Fl} (hn : f.1 ∉ l.map Prod.fst) (s : ByteArray) : lookF9 (l ++ [f]) s = if f.1 = s then some f.2 else lookF9 l s := by
  unfold lookF9
  rw [List.find?_append]
  by_cases h : f.1 = s
  · rw [if_pos h]
    have : l.find? (fun f => decide (f.1 = s)) = none := by
      rw [List.find?_eq_none]
      intro x hx he
      exact hn (by rw [h, ← (of_decide_eq_true he)]; exact List.mem_map_of_mem hx)
    rw [this]; simp [h]
  · rw [if_neg h]
    cases l.find? (fun f => decide (f.1 = s)) with
    | none => simp [h]
    | some x => simp
def nilS : Value := .slice none 0 0
def fileV (f : Fl) : Value := .agg #[.string f.1, .string f.2]
structure StM (w : World) (bb bf base N : Nat) (gb gf : ByteArray → Option Value) (l : List Fl) : Prop where
  b : Rm w Tryz.prog 9 bb N gb
  f : Rm w Tryz.prog 9 bf N gf
  rows : Fgr w base 68 (fun s => (gb s).getD nilS) (inD l)
  gbs : ∀ s, (gb s).isSome = true ↔ inD l s ≠ []
  gfs : ∀ s, gf s = if deN s = true then none else (lookF9 l s).map (fun d => fileV (s, d))
section
variable {w w' : World} {bb bf base N : Nat} {gb gf : ByteArray → Option Value} {l : List Fl}
theorem StM.below (h : StM w bb bf base N gb gf l) (hb : Below w.heap.size w w') : StM w' bb bf base N gb gf l :=
  ⟨h.b.below hb h.b.lt, h.f.below hb h.f.lt, h.rows.below hb, h.gbs, h.gfs⟩
theorem StM.alloc (h : StM w bb bf base N gb gf l) (o : Obj) : StM (w.alloc o) bb bf base N gb gf l := h.below ((Below.refl _ w).alloc (Nat.le_refl _) o)
theorem StM.start (w : World) (base : Nat) : StM ((w.alloc (.map #[] 0)).alloc (.map #[] 0)) w.heap.size (w.heap.size + 1) base 0 (fun _ => none) (fun _ => none) [] := by
  refine ⟨(Rm.made w Tryz.prog _).alloc _, ?_, Fgr.start _ _ _, fun s => by simp [inD], fun s => by simp [lookF9]⟩
  have := Rm.made (w.alloc (.map #[] 0)) Tryz.prog 9
  rw [World.size_alloc] at this
  exact this
theorem StM.file (h : StM w bb bf base N gb gf l) (hne : bb ≠ bf) (hbf : bf < base) {f : Fl} (hd : deN f.1 = false) (hn : f.1 ∉ l.map Prod.fst) (hr : Rm w' Tryz.prog 9 bf (N + 1) (upd gf f.1 (fileV f))) (hg : w.grownBy w' (some bf)) :
    StM w' bb bf base (N + 1) gb (upd gf f.1 (fileV f)) (l ++ [f]) := by
  have e : inD (l ++ [f]) = inD l := by
    funext s
    rw [inD_snoc, if_neg (by rw [hd]; simp), List.append_nil]
  refine ⟨(h.b.kept hg (fun e => hne (Option.some.inj e))).more (by omega), hr, by rw [e]; exact h.rows.other hg hbf, fun s => by rw [e]; exact h.gbs s, fun s => ?_⟩
  unfold upd
  rw [look9_snoc hn]
  by_cases hs : s = f.1
  · subst hs
    rw [if_pos rfl, hd, if_pos rfl]; rfl
  · rw [if_neg hs, if_neg (show ¬ f.1 = s from fun e => hs e.symm)]
    exact h.gfs s
theorem StM.dir {w1 : World} (h : StM w bb bf base N gb gf l) (hlt : bb < base ∧ bf < base ∧ bb ≠ bf) {f : Fl} (hd : deN f.1 = true) (hn : f.1 ∉ l.map Prod.fst) {g cap : Nat}
    (ho : w1.ownsRow base 68 2 (.slice (some ⟨g, 0, none⟩) ((inD l (fsN f.1)).length + 1) cap) ((inD l (fsN f.1)).length + 1) (flat flC (inD l (fsN f.1)) ++ flC (rsN f.1, f.2))) (hg : w.grownBy w1 ((gb (fsN f.1)).getD nilS).ownBlock)
    (hat : ((gb (fsN f.1)).getD nilS).ownBlock = some g ∨ g = w.heap.size)
    (hr : Rm w' Tryz.prog 9 bb (N + 1) (upd gb (fsN f.1) (.slice (some ⟨g, 0, none⟩) ((inD l (fsN f.1)).length + 1) cap))) (hg2 : w1.grownBy w' (some bb)) :
    StM w' bb bf base (N + 1) (upd gb (fsN f.1) (.slice (some ⟨g, 0, none⟩) ((inD l (fsN f.1)).length + 1) cap)) gf (l ++ [f]) := by
  have hne : ∀ b, b < base → some b ≠ ((gb (fsN f.1)).getD nilS).ownBlock := fun b hb e => by have := ((h.rows.own (fsN f.1)).lt b e.symm).1; omega
  have e1 : (fun s => (upd gb (fsN f.1) (.slice (some ⟨g, 0, none⟩) ((inD l (fsN f.1)).length + 1) cap) s).getD nilS) = fun s => if s = fsN f.1 then .slice (some ⟨g, 0, none⟩) ((inD l (fsN f.1)).length + 1) cap else (gb s).getD nilS := by
    funext s
    unfold upd
    by_cases hs : s = fsN f.1
    · rw [if_pos hs, if_pos hs]; rfl
    · rw [if_neg hs, if_neg hs]
  have e2 : inD (l ++ [f]) = fun s => if s = fsN f.1 then inD l (fsN f.1) ++ [(rsN f.1, f.2)] else inD l s := by
    funext s
    rw [inD_snoc]
    by_cases hs : s = fsN f.1
    · subst hs; rw [if_pos ⟨hd, rfl⟩, if_pos rfl]
    · rw [if_neg (fun e => hs e.2.symm), if_neg hs, List.append_nil]
  refine ⟨hr, ((h.f.kept hg (hne bf hlt.2.1)).kept hg2 (fun e => hlt.2.2 (by cases e; rfl))).more (by omega), ?_, fun s => ?_, fun s => ?_⟩
  · rw [e1, e2]
    exact (h.rows.app (fsN f.1) ho hg hat).other hg2 hlt.1
  · rw [e2]
    unfold upd
    by_cases hs : s = fsN f.1
    · simp [hs]
    · simp only [if_neg hs]; exact h.gbs s
  · rw [look9_snoc hn]
    by_cases hs : f.1 = s
    · subst hs; rw [h.gfs, if_pos hd, if_pos hd]
    · rw [if_neg hs]; exact h.gfs s
end
theorem names_eq {gb gf : ByteArray → Option Value} {l : List Fl} (hl : OkL l) (h1 : ∀ s, (gb s).isSome = true ↔ inD l s ≠ []) (h2 : ∀ s, gf s = if deN s = true then none else (lookF9 l s).map (fun d => fileV (s, d))) {N M : Nat} {ks qs : List ByteArray} (hk : KeysR gf N ks) (hq : KeysR gb M qs) :
    srtB (ks ++ qs) = nmsP l ∧ ∀ n ∈ nmsP l, deN n = false := by
  have hfl : ∀ x, x ∈ ks ↔ deN x = false ∧ ∃ d, (x, d) ∈ l := fun x => by
    rw [hk.mem, h2]
    cases hd : deN x with
    | true => simp
    | false =>
      simp only [Bool.false_eq_true, if_false, Option.isSome_map, true_and]
      rw [Option.isSome_iff_exists]
      constructor
      · rintro ⟨d, h⟩; exact ⟨d, (look9_some hl.nod).1 h⟩
      · rintro ⟨d, h⟩; exact ⟨d, (look9_some hl.nod).2 h⟩
  have hdr : ∀ x, x ∈ qs ↔ ∃ g ∈ l, deN g.1 = true ∧ fsN g.1 = x := fun x => by
    rw [hq.mem, h1]
    constructor
    · intro h
      obtain ⟨f, hf⟩ := List.exists_mem_of_ne_nil _ h
      obtain ⟨g, hg, a, b, _⟩ := mem_inD.1 hf
      exact ⟨g, hg, a, b⟩
    · rintro ⟨g, hg, a, b⟩ e
      have : (rsN g.1, g.2) ∈ inD l x := mem_inD.2 ⟨g, hg, a, b, rfl⟩
      rw [e] at this; cases this
  have hdis : ∀ x, x ∈ ks → x ∉ qs := fun x hx hx' => by
    obtain ⟨_, d, hd⟩ := (hfl x).1 hx
    obtain ⟨g, hg, a, b⟩ := (hdr x).1 hx'
    have h3 := hl.nob _ hd g hg
    rw [Bool.eq_false_iff] at h3
    refine h3 ((belB_iff _ _).2 ⟨bl (rsN g.1), ?_⟩)
    rw [cut_deep a, b]
  have hno : ∀ n ∈ nmsP l, deN n = false := fun n hn => by
    obtain ⟨f, _, rfl⟩ := nms_mem.1 hn
    exact (cut_no (fsN_nosl _)).2
  refine ⟨asc_ext (srtB_asc (List.nodup_append.2 ⟨hk.nod, hq.nod, fun a ha b hb e => hdis a ha (by rw [e]; exact hb)⟩)) (nms_asc l) (fun x => ?_), hno⟩
  rw [srtB_mem, List.mem_append, hfl, hdr, nms_mem]
  constructor
  · rintro (⟨h, d, hd⟩ | ⟨g, hg, _, h⟩)
    · exact ⟨_, hd, (cut_flat h).symm⟩
    · exact ⟨g, hg, h.symm⟩
  · rintro ⟨f, hf, rfl⟩
    cases hd : deN f.1 with
    | false => exact .inl ⟨(cut_no (fsN_nosl _)).2, f.2, by rw [cut_flat hd]; exact hf⟩
    | true => exact .inr ⟨f, hf, hd, rfl⟩
end Go.Proofs.YtmdhlkkekidknaaGreatDoor

namespace Go.Proofs.YtmdhlkkekidknaaGreatDoor
open Go.RowKit Go.Shelf
attribute [local go_sem] Oper.semAt_some

theorem tall_any (A : Option Addr) (n c : Nat) (d : Dig) (w : World) :
    Calls Tryz.prog 57 #[.slice A n c, digV d] w fun e w' => e = .returned (.func (.func 107) #[] #[.pointer (some ⟨w.heap.size, 0, none⟩), .pointer (some ⟨w.heap.size + 1, 0, none⟩)]) ∧
      w' = (w.alloc (.cells #[.slice A n c] 23)).alloc (.cells #[.int .u64 d.1, .int .u64 d.2] 30) := by
  obtain ⟨d1, d2⟩ := d
  simp only [digV]
  go_enter Tryz.func57, Tryz.ntmps57
  go_wp2_with fail
  go_ret
  exact ⟨rfl, rfl⟩
theorem tall1_st (n B0 hz B np cp b2 b3 : Nat) (A : Option Addr) (p : List Itm) (d : Dig) (w : World) (hp : PlOk p) (h0 : Sl w B 3 A np (flat itC p)) (hB : B ≤ B0) (hB0 : B0 ≤ w.heap.size) (hzw : w.heap.size ≤ hz) (hn : np ≤ 1000000)
    (h2 : Bk w b2 23 #[.slice A np cp]) (h3 : Bk w b3 30 #[.int .u64 d.1, .int .u64 d.2]) :
    SeqT Fence.wide n Tryz.prog 107 #[.pointer (some ⟨b2, 0, none⟩), .pointer (some ⟨b3, 0, none⟩)] vdA (KpV B0 hz) (fun A B => Below A.heap.size A B)
      (fun pre => ∃ t, pre ++ t = vsL (visW p d)) (fun xs => xs = vsL (visW p d)) (fun pre => ∃ t, pre ++ t = vsL (visW p d)) hz w := fun l J Jx W hW hWz hJ hY hJ0 => by
  obtain ⟨d1, d2⟩ := d
  have HV := Lib.hid (visit_all 102 p (d1, d2) ⟨#[]⟩ A np cp B B0 hz l (n - 1) (vsL (visW p (d1, d2))) [] J Jx W hp (h0.below hW (by omega)) hB (by omega) (by omega) hn (by decide) (by decide) ⟨[], by simp [visW]⟩ hJ
    (fun pre x W1 ht hj => hY pre x W1 (by obtain ⟨t, ht⟩ := ht; exact ⟨t, ht⟩) hj) hJ0)
  have HK2 := Lib.hid (h2.below hW h2.lt); have HK3 := Lib.hid (h3.below hW h3.lt)
  simp only [digV] at HV
  have c2 := HK2.out.cell 0
  obtain ⟨x0, x1, _, _⟩ := HK3.out.two
  simp at c2
  clear hp h0 hW hJ hY hJ0 h2 h3
  refine callsIn_of_wp Tryz.func107 rfl trivial ?_ rfl
  simp only [Tryz.ntmps107, List.size_toArray, List.length_cons, List.length_nil, Nat.reduceAdd, Nat.reduceSub, Array.replicate_succ, Array.replicate_zero, List.push_toArray, List.append_toArray, List.nil_append, List.cons_append]
  gi_wp2_with fail
  refine ⟨trivial, (fun h => by cases h), (callsIn_wide.2 HV.out).mono ?_⟩
  rintro e W9 (⟨rfl, hr0, hJ9, _⟩ | ⟨rfl, hq⟩)
  · have HR : Hid (vsL (visW p (d1, d2)) = (vis p 102 (d1, d2) ⟨#[]⟩).1.map vok) := by
      show vsL (vis p 102 (d1, d2) ⟨#[]⟩) = _
      unfold vsL vsT; rw [if_pos hr0, List.append_nil]
    have HJ9 := Lib.hid hJ9
    clear hJ9 hr0 HV
    gi_wp2
    go_end0
    exact ⟨⟨_, rfl⟩, .inl ⟨_, rfl, by rw [HR.out]; exact HJ9.out⟩⟩
  · have HQ := Lib.hid hq
    clear hq HV
    gi_wp2
    go_end0
    refine ⟨⟨_, rfl⟩, ?_⟩
    rcases HQ.out with ⟨q, t, h1, h2⟩ | ⟨_, h2⟩
    · exact .inr ⟨q, ⟨t, h1⟩, h2⟩
    · exact .inl ⟨_, rfl, h2⟩
end Go.Proofs.YtmdhlkkekidknaaGreatDoor
