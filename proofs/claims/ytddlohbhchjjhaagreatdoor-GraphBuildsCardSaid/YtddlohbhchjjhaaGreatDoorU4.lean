/-
  Lemmas: graph.edges, walked. graph.sortedKeys. What graph.Cycle does, in plain Lean: numbers of steps, the best next label, and why it ends. No program in sight. graph.Cycle, walked. A region that draws its order, whose first n operations only add to memory: whatever the order, each operation's value keeps its word (a predicate that abides what is added), and the rest is carried out in the text's order. A region that draws its order, some of whose operations are guarded, and whose first n operations only add to memory: whatever the order, each operation's value keeps its word. As in Stable, with guards.
-/
import Derived.StillTail
import Derived.WalkKit
import Derived.Test.YtddlohbhchjjhaaGreatDoorU3

namespace Go.Proofs.YtddlohbhchjjhaaGreatDoor
open Go.RowKit Go.Maps

theorem rmr_le {w : World} {P : Program} {k : TypeId} {b r N cnt : Nat} {g : ByteArray → Option Value} {left : ByteArray → Bool} (h : RmR w P k b r N g left cnt) : cnt ≤ N := by
  obtain ⟨D, lf, ⟨es, clock, since, seen, c0, h1, F, hs, hD, h3, _, h4, _⟩, _⟩ := h
  rw [← h4]
  refine Nat.le_trans ?_ hs
  unfold leftOf
  exact Array.size_filter_le
theorem sli_none : sli (fun _ => none) (fun _ => none) = fun _ => .slice none 0 0 := by
  funext ⟨b, _⟩; cases b <;> rfl
theorem Edg.other {w w' : World} {bd bu base N r : Nat} {gd gu : ByteArray → Option Value} {L : Ix → List ByteArray} (h : Edg w bd bu base N gd gu L) (hg : w.grownBy w' (some r)) (hr : r < base) (h1 : bd ≠ r) (h2 : bu ≠ r) : Edg w' bd bu base N gd gu L :=
  ⟨h.d.kept hg (fun e => h1 (by cases e; rfl)), h.u.kept hg (fun e => h2 (by cases e; rfl)), h.rows.other hg hr, h.len⟩
theorem idxG_inv {ts : List Tg} {s : ByteArray} {v : Value} (h : idxG ts s = some v) : ∃ t, findT ts s = some t ∧ v = tgV t := by
  unfold idxG at h
  cases hf : findT ts s with
  | none => rw [hf] at h; cases h
  | some t => rw [hf] at h; cases h; exact ⟨t, rfl, rfl⟩
theorem idxG_none {ts : List Tg} {s : ByteArray} (h : isT ts s = false) : idxG ts s = none := by
  unfold idxG; unfold isT at h
  cases hf : findT ts s with
  | none => rfl
  | some x => rw [hf] at h; cases h
theorem new_cell (w : World) (t : TypeId) (x : ByteArray) : ∀ j u, [Value.string x][j]? = some u → (w.alloc (.cells #[.string x] t)).cell? (Addr.add ⟨w.heap.size, 0, none⟩ j) = some u := by
  intro j u h
  cases j with
  | zero =>
    have hk : Bk (w.alloc (.cells #[.string x] t)) w.heap.size t #[.string x] := Bk.new w _ _
    have := hk.cell 0
    simp at this h
    subst h
    simp [Addr.add]
  | succ j => simp at h

set_option maxRecDepth 100000 in
set_option maxHeartbeats 8000000 in
theorem edges_any (b N M B : Nat) (ts : List Tg) (w : World) (hM : Rm w Tryz.prog 9 b N (idxG ts)) (hok : ∀ t ∈ ts, TgOk w B t) (hB : B ≤ w.heap.size) (hN : N ≤ 1000) (hdm : ∀ t ∈ ts, t.deps.length ≤ M) (hM1 : M ≤ 1000) :
    Calls Tryz.prog 62 #[.map (some b)] w fun e w' => e = .returned (.tuple #[.map (some w.heap.size), .map (some (w.heap.size + 1))]) ∧
      ∃ gd gu L, Edg w' w.heap.size (w.heap.size + 1) (w.heap.size + 3) 2000000 gd gu L ∧ (∀ s, L (false, s) = nxT ts s) ∧ (∀ d s, s ∈ L (true, d) ↔ d ∈ nxT ts s) ∧ Below w.heap.size w w' := by
  have hblt := hM.lt
  have HM := Lib.hid hM; have HOK := Lib.hid hok; have HDM := Lib.hid hdm
  clear hM hok hdm
  obtain ⟨i0, hi, hz0, hz1, hz2⟩ := info_parts infoStr
  have Hi := Lib.hid hi; have Hz0 := Lib.hid hz0; have Hz1 := Lib.hid hz1; have Hz2 := Lib.hid hz2
  clear hi hz0 hz1 hz2
  have hmm := @run_makeMap Tryz.prog
  have R0 := Lib.hid ((HM.out.alloc (.map #[] 0)).alloc (.map #[] 0))
  have E0 : Hid (Edg ((w.alloc (.map #[] 0)).alloc (.map #[] 0)) w.heap.size (w.heap.size + 1) (w.heap.size + 3) 0 (fun _ => none) (fun _ => none) (fun _ => [])) := by
    refine ⟨(Rm.made w Tryz.prog _).alloc _, ?_, by rw [sli_none]; exact Grp.start _ _ _, fun _ => Nat.le_refl _⟩
    have := Rm.made (w.alloc (.map #[] 0)) Tryz.prog 9
    rw [World.size_alloc] at this
    exact this
  have B0 : Hid (Below w.heap.size w ((w.alloc (.map #[] 0)).alloc (.map #[] 0))) := ((Below.refl _ w).alloc (Nat.le_refl _) _).alloc (by simp) _
  go_enter Tryz.func62, Tryz.ntmps62
  go_wp2_with (at_range; refine halt_ ?_)
  refine unhalt ?_
  refine wpList_range_rm rfl _ 73 rfl 9 35 Tryz.underlying9 Tryz.underlying73 b N (idxG ts) rfl R0.out ?_
  intro w1 cnt0 hr1 hg1 hz1
  have hc0 := rmr_le hr1
  simp only [World.size_alloc] at hr1 hz1
  have RR := Lib.hid hr1
  have E1 := Lib.hid (E0.out.below (below_none hg1))
  have B1 : Hid (Below w.heap.size w w1) := B0.out.trans ((below_none hg1).mono (by simp; omega))
  have HKT : Hid (2 * M * cnt0 ≤ 2000000) := by
    show _ ≤ _
    have h1 : 2 * M * cnt0 ≤ 2 * 1000 * 1000 := Nat.mul_le_mul (by omega) (by omega)
    omega
  clear hr1 hg1 R0 E0 B0 HM
  go_wp2
  go_frame
  simp only [World.size_alloc]
  go_loopw [16] (fun _ wr => ∃ left cnt gd gu L N', Hid (RmR wr Tryz.prog 9 b (w.heap.size + 2) N (idxG ts) left cnt) ∧ Hid (Edg wr w.heap.size (w.heap.size + 1) (w.heap.size + 3) N' gd gu L) ∧ Hid (EdL ts left none [] L) ∧ N' + 2 * M * cnt ≤ 2 * M * cnt0 ∧ Hid (Below w.heap.size w wr) ∧ w.heap.size + 3 ≤ wr.heap.size) (fun _ wr => wr.rangeLeft b (w.heap.size + 2))
  case atStart => exact ⟨_, cnt0, _, _, _, 0, RR.out, E1.out, by show EdL _ _ _ _ _; simp only [idxG_some]; exact EdL.start ts, by omega, B1.out, by omega⟩
  case round =>
    obtain ⟨left, cnt, gd, gu, L, N', hR, hE, hL, hN', hBel, hwz⟩ := hrel
    have HMS := Lib.hid hR.out.left_
    go_wp2_with (at_next; refine halt_ ?_)
    refine unhalt ?_
    refine wpList_next_rm rfl _ rfl 9 Tryz.underlying9 b (w.heap.size + 2) N (idxG ts) left cnt rfl hR.out ?_ ?_
    · intro hdone
      have HE := Lib.hid (hL.out.end_ hdone)
      go_wp2
      go_ret2
      exact ⟨rfl, gd, gu, L, ⟨hE.out.d.more (by have := HKT.out; omega), hE.out.u.more (by have := HKT.out; omega), hE.out.rows, fun p => by have := hE.out.len p; have := HKT.out; omega⟩, HE.out.1, HE.out.2, hBel.out⟩
    · intro s v w2 cnt2 hsz hls hgs hR2 hlt hg2 hz2 hen
      obtain ⟨t, hf, rfl⟩ := idxG_inv hgs
      have HF := Lib.hid hf
      have HSZ := Lib.hid hsz
      have hbr : b ≠ w.heap.size + 2 := by omega
      have HE2 := Lib.hid (hE.out.other hg2 (by omega) (by omega) (by omega))
      have HL2 := Lib.hid (hL.out.enter hls)
      have HB2 : Hid (Below w.heap.size w w2) := hBel.out.grown hg2 (by omega) (fun k e => by cases e; omega)
      have HR2 := Lib.hid hR2
      clear hR2 hls hgs hg2 hR hE hL hBel hf
      have HT : Hid (TgOk w B t) := HOK.out t (findT_lab HF.out).2
      have HDN : Hid (t.dn ≤ M) := by show _ ≤ _; rw [← HT.out.dlen]; exact HDM.out t (findT_lab HF.out).2
      obtain ⟨lab, kind, dA, dn, dc, deps, vA, vn, vc, vis⟩ := t
      simp only [tgV] at hen ⊢
      have hdnM : dn ≤ M := HDN.out
      have HR3 := Lib.hid (HR2.out.kept (World.grownBy_alloc w2 (.cells #[.string lab, .int .i64 kind, .slice dA dn dc, .slice vA vn vc] 35) none) (by simp) (by simp))
      have HE3 := Lib.hid (HE2.out.alloc (.cells #[.string lab, .int .i64 kind, .slice dA dn dc, .slice vA vn vc] 35))
      have HB3 : Hid (Below w.heap.size w (w2.alloc (.cells #[.string lab, .int .i64 kind, .slice dA dn dc, .slice vA vn vc] 35))) := HB2.out.alloc (by omega) _
      have hk0 : Bk (w2.alloc (.cells #[.string lab, .int .i64 kind, .slice dA dn dc, .slice vA vn vc] 35)) w2.heap.size 35 #[.string lab, .int .i64 kind, .slice dA dn dc, .slice vA vn vc] := Bk.new w2 _ _
      have u2 := hk0.cell 2
      simp at u2
      clear hk0 HR2 HE2 HB2
      go_wp2
      go_loopw [24] (fun i wr => ∃ (j : Nat) (gd gu : ByteArray → Option Value) (L : Ix → List ByteArray) (N2 : Nat), j ≤ dn ∧ i = .int .i64 j ∧ Hid (RmR wr Tryz.prog 9 b (w.heap.size + 2) N (idxG ts) (fun z => left z && !decide (z = s)) cnt2) ∧ Hid (Edg wr w.heap.size (w.heap.size + 1) (w.heap.size + 3) N2 gd gu L) ∧ Hid (EdL ts (fun z => left z && !decide (z = s)) (some s) (deps.take j) L) ∧ N2 ≤ N' + 2 * j ∧ Hid (Below w.heap.size w wr) ∧ w.heap.size + 3 ≤ wr.heap.size) (fun i _ => dn - (intOf i).toNat)
      case atStart => exact ⟨0, gd, gu, L, N', Nat.zero_le _, rfl, HR3.out, HE3.out, HL2.out, by omega, HB3.out, by simp; omega⟩
      case round =>
        clear HL2 HR3 HE3 HB3
        obtain ⟨j, gd, gu, L, N2, hj, rfl, hR, hE, hL, hN2, hBel, hwz2⟩ := hrel
        by_cases hjn : j < dn
        · obtain ⟨db, off, x, rfl, hdB, hx, y0⟩ := (HT.out.below hBel.out hB).d.str_at hjn
          have HTK := Lib.hid (take_snoc hx)
          have HXS := Lib.hid (HT.out.ds x (List.mem_of_getElem? hx))
          clear hx
          have hlz : (j : Int) < (dn : Int) := by omega
          have hlk := hR.out.rm.look_ok Tryz.underlying9 Tryz.underlying73 (Tryz.zeroValue35 _) HXS.out
          rw [idxG_some] at hlk
          cases hs : isT ts x with
          | false =>
            rw [idxG_none hs, hs] at hlk
            simp only [Option.getD_none] at hlk
            have HL3 := Lib.hid (hL.out.skip hs)
            have HR3 := Lib.hid (hR.out.kept (World.grownBy_alloc wr (.cells #[.string ⟨#[]⟩, .int .i64 0, .slice none 0 0, .slice none 0 0] 35) none) (by simp) (by simp))
            have HE3 := Lib.hid (hE.out.alloc (.cells #[.string ⟨#[]⟩, .int .i64 0, .slice none 0 0, .slice none 0 0] 35))
            have HB3 : Hid (Below w.heap.size w (wr.alloc (.cells #[.string ⟨#[]⟩, .int .i64 0, .slice none 0 0, .slice none 0 0] 35))) := hBel.out.alloc (by omega) _
            clear hs
            go_wp2
            go_roundw
            case rel => exact ⟨j + 1, gd, gu, L, N2, hjn, by go_num, HR3.out, HE3.out, by show EdL _ _ _ _ _; rw [HTK.out]; exact HL3.out, by omega, HB3.out, by simp; omega⟩
            case measure => simp [intOf]; omega
          | true =>
            obtain ⟨q, hq⟩ : ∃ q, findT ts x = some q := Option.isSome_iff_exists.1 hs
            have hgx : idxG ts x = some (tgV q) := by unfold idxG; rw [hq]; rfl
            rw [hgx, hs] at hlk
            have HL3 := Lib.hid (hL.out.take hs)
            obtain ⟨xlab, xkind, xdA, xdn, xdc, xdeps, xvA, xvn, xvc, xvis⟩ := q
            simp only [Option.getD_some, tgV] at hlk
            clear hq hgx hs
            generalize hwA : wr.alloc (.cells #[.string xlab, .int .i64 xkind, .slice xdA xdn xdc, .slice xvA xvn xvc] 35) = wA
            have HRA : Hid (RmR wA Tryz.prog 9 b (w.heap.size + 2) N (idxG ts) (fun z => left z && !decide (z = s)) cnt2) := by
              subst hwA; exact hR.out.kept (World.grownBy_alloc wr _ none) (by simp) (by simp)
            have HEA : Hid (Edg wA w.heap.size (w.heap.size + 1) (w.heap.size + 3) N2 gd gu L) := by subst hwA; exact hE.out.alloc _
            have HBA : Hid (Below w.heap.size w wA) := by subst hwA; exact hBel.out.alloc (by omega) _
            have hzA : w.heap.size + 3 ≤ wA.heap.size := by subst hwA; simp; omega
            have hld := HEA.out.d.look Tryz.underlying9 Tryz.underlying81 (Tryz.zeroValue33 _) HSZ.out
            have hld2 : (Instr.lookup 81 (.map (some w.heap.size)) (.string s) false).run Tryz.prog wA = .ok (sli gd gu (false, s)) wA := hld
            clear hld
            go_wp2_with (at_builtin; refine halt_ ?_)
            refine unhalt ?_
            refine wpList_append_lies _ rfl (.tmp 39) (.tmp 41) 33 rfl (w.heap.size + 3) 9 i0 _ 1 16 Tryz.underlying33 Hi.out Hz0.out Hz1.out Hz2.out rfl (by decide) (sli gd gu (false, s)) (L (false, s)).length (strs (L (false, s))) rfl ?own _ 1 _ [.string x] rfl rfl ?nw (by simp [Value.oneCell']) (by decide) ?l1 ?l2 ?l3 _ rfl ?_
            case own => exact (HEA.out.alloc _).rows.own (false, s)
            case nw => exact new_cell wA _ x
            case l1 => have := HEA.out.len (false, s); have := HKT.out; unfold maxLen; omega
            case l2 => have := HEA.out.len (false, s); have := HKT.out; omega
            case l3 => simp; omega
            intro g cap w4 ho hg hat hgl
            have HO := Lib.hid ho; have HG := Lib.hid hg; have HAT := Lib.hid hat
            have hrow : Hid (∀ k, (sli gd gu (false, s)).ownBlock = some k → w.heap.size + 3 ≤ k) := fun k e => ((HEA.out.rows.own (false, s)).lt k e).1
            have hz4 := hg.size
            rw [World.size_alloc] at hz4
            clear ho hg hat hgl hld2 hlk
            go_wp2_with (at_mapUpdate; refine halt_ ?_)
            refine unhalt ?_
            refine wpList_put_rm rfl _ _ _ 81 rfl 9 33 Tryz.underlying9 Tryz.underlying81 w.heap.size N2 gd rfl ((HEA.out.alloc _).d.kept HG.out (fun e => by have := hrow.out _ e.symm; omega)) (by have := HKT.out; unfold maxLen; omega) s HSZ.out _ rfl rfl ?_
            intro w5 hM5 hg5
            have HE5 := Lib.hid ((HEA.out.alloc _).stepD (by omega) HO.out HG.out HAT.out hM5 hg5)
            have HR5 := Lib.hid (((HRA.out.kept (World.grownBy_alloc wA _ none) (by simp) (by simp)).kept HG.out (fun e => by have := hrow.out _ e.symm; omega) (fun e => by have := hrow.out _ e.symm; omega)).kept hg5 (fun e => by cases e; omega) (fun e => by simp at e))
            have HB5 : Hid (Below w.heap.size w w5) := ((HBA.out.alloc (by omega) _).grown HG.out (by simp; omega) (fun k e => by have := hrow.out _ e; omega)).grown hg5 (by omega) (fun k e => by cases e; omega)
            have hz5 : w.heap.size + 3 ≤ w5.heap.size := by have := hg5.size; omega
            clear hM5 hg5 HO HG HAT HEA HRA HBA hrow
            generalize upd gd s (Value.slice (some ⟨g, 0, none⟩) ((L (false, s)).length + 1) cap) = gd5 at HE5
            generalize hL5 : apL L (false, s) x = L5 at HE5 HL3
            have hlu : (Instr.lookup 81 (.map (some (w.heap.size + 1))) (.string x) false).run Tryz.prog w5 = .ok (sli gd5 gu (true, x)) w5 := HE5.out.u.look Tryz.underlying9 Tryz.underlying81 (Tryz.zeroValue33 _) HXS.out
            go_wp2_with (at_builtin; refine halt_ ?_)
            refine unhalt ?_
            refine wpList_append_lies _ rfl (.tmp 47) (.tmp 49) 33 rfl (w.heap.size + 3) 9 i0 _ 1 16 Tryz.underlying33 Hi.out Hz0.out Hz1.out Hz2.out rfl (by decide) (sli gd5 gu (true, x)) (L5 (true, x)).length (strs (L5 (true, x))) rfl ?own _ 1 _ [.string s] rfl rfl ?nw (by simp [Value.oneCell']) (by decide) ?l1 ?l2 ?l3 _ rfl ?_
            case own => exact (HE5.out.alloc _).rows.own (true, x)
            case nw => exact new_cell w5 _ s
            case l1 => have := HE5.out.len (true, x); have := HKT.out; unfold maxLen; omega
            case l2 => have := HE5.out.len (true, x); have := HKT.out; omega
            case l3 => simp; omega
            intro g6 cap6 w6 ho hg hat hgl
            have HO := Lib.hid ho; have HG := Lib.hid hg; have HAT := Lib.hid hat
            have hrow : Hid (∀ k, (sli gd5 gu (true, x)).ownBlock = some k → w.heap.size + 3 ≤ k) := fun k e => ((HE5.out.rows.own (true, x)).lt k e).1
            have hz6 := hg.size
            rw [World.size_alloc] at hz6
            clear ho hg hat hgl hlu
            go_wp2_with (at_mapUpdate; refine halt_ ?_)
            refine unhalt ?_
            refine wpList_put_rm rfl _ _ _ 81 rfl 9 33 Tryz.underlying9 Tryz.underlying81 (w.heap.size + 1) (N2 + 1) gu rfl ((HE5.out.alloc _).u.kept HG.out (fun e => by have := hrow.out _ e.symm; omega)) (by have := HKT.out; unfold maxLen; omega) x HXS.out _ rfl rfl ?_
            intro w7 hM7 hg7
            have HE7 := Lib.hid ((HE5.out.alloc _).stepU (by omega) HO.out HG.out HAT.out hM7 hg7)
            have HR7 := Lib.hid (((HR5.out.kept (World.grownBy_alloc w5 _ none) (by simp) (by simp)).kept HG.out (fun e => by have := hrow.out _ e.symm; omega) (fun e => by have := hrow.out _ e.symm; omega)).kept hg7 (fun e => by cases e; omega) (fun e => by simp at e))
            have HB7 : Hid (Below w.heap.size w w7) := ((HB5.out.alloc (by omega) _).grown HG.out (by simp; omega) (fun k e => by have := hrow.out _ e; omega)).grown hg7 (by omega) (fun k e => by cases e; omega)
            have hz7 : w.heap.size + 3 ≤ w7.heap.size := by have := hg7.size; omega
            clear hM7 hg7 HO HG HAT HE5 HR5 HB5 hrow
            go_wp2
            go_roundw
            case rel => exact ⟨j + 1, _, _, _, N2 + 2, hjn, by go_num, HR7.out, HE7.out, by show EdL _ _ _ _ _; rw [HTK.out]; exact HL3.out, by omega, HB7.out, hz7⟩
            case measure => simp [intOf]; omega
        · have hlz : ¬ (j : Int) < (dn : Int) := by omega
          have hje : j = dn := by omega
          have HDL : Hid (deps.length = dn) := HT.out.dlen
          have HL3 : Hid (EdL ts (fun z => left z && !decide (z = s)) none [] L) := by
            have h1 := hL.out
            rw [List.take_of_length_le (by rw [HDL.out]; omega)] at h1
            exact EdL.leave h1 HF.out (by simp)
          have HNN : N2 + 2 * M * cnt2 ≤ 2 * M * cnt0 := by
            have h1 : 2 * M * (cnt2 + 1) ≤ 2 * M * cnt := Nat.mul_le_mul_left _ (by omega)
            rw [Nat.mul_add] at h1
            have := HDN.out
            omega
          have HMS2 := Lib.hid hR.out.left_
          clear hL
          go_wp2
          go_roundw
          case rel => exact ⟨_, cnt2, gd, gu, L, N2, hR.out, hE.out, HL3.out, HNN, hBel.out, hwz2⟩
          case measure => rw [HMS.out, HMS2.out]; exact hlt
end Go.Proofs.YtddlohbhchjjhaaGreatDoor

namespace Go.Proofs.YtddlohbhchjjhaaGreatDoor
open Go.RowKit Go.Maps

set_option maxRecDepth 100000 in
set_option maxHeartbeats 4000000 in
theorem sortedKeys_any (b N : Nat) (ts : List Tg) (w : World) (hM : Rm w Tryz.prog 9 b N (idxG ts)) (hN : N ≤ 1000) :
    Calls Tryz.prog 63 #[.map (some b)] w fun e w' => ∃ A n c l, e = .returned (.slice A n c) ∧ w'.ownsRow w.heap.size 9 1 (.slice A n c) n (strs l) ∧ n ≤ N ∧ Asc l ∧ (∀ x, x ∈ l ↔ isT ts x = true) ∧ Below w.heap.size w w' := by
  have hblt := hM.lt
  have HM := Lib.hid hM
  clear hM
  obtain ⟨i0, hi, hz0, hz1, hz2⟩ := info_parts infoStr
  have Hi := Lib.hid hi; have Hz0 := Lib.hid hz0; have Hz1 := Lib.hid hz1; have Hz2 := Lib.hid hz2
  clear hi hz0 hz1 hz2
  go_enter Tryz.func63, Tryz.ntmps63
  go_wp2_with (at_range; refine halt_ ?_)
  refine unhalt ?_
  refine wpList_range_rm rfl _ 73 rfl 9 35 Tryz.underlying9 Tryz.underlying73 b N (idxG ts) rfl HM.out ?_
  intro w1 cnt0 hr1 hg1 hz1
  have hc0 := rmr_le hr1
  have RR := Lib.hid hr1
  have B1 : Hid (Below w.heap.size w w1) := below_none hg1
  clear hr1 hg1 HM
  go_wp2
  go_frame
  go_loopw [3] (fun q wr => ∃ left cnt A n c l, q = .slice A n c ∧ Hid (RmR wr Tryz.prog 9 b w.heap.size N (idxG ts) left cnt) ∧ Hid (wr.ownsRow (w.heap.size + 1) 9 1 (.slice A n c) n (strs l)) ∧ n + cnt ≤ cnt0 ∧ Hid (l.Nodup ∧ ∀ x, x ∈ l ↔ isT ts x = true ∧ left x = false) ∧ Hid (Below w.heap.size w wr) ∧ w.heap.size + 1 ≤ wr.heap.size) (fun _ wr => wr.rangeLeft b w.heap.size)
  case atStart =>
    refine ⟨_, cnt0, none, 0, 0, [], rfl, RR.out, World.ownsRow_nil _ _ _ _, by omega, ⟨List.nodup_nil, fun x => ?_⟩, B1.out, by omega⟩
    rw [idxG_some]; cases isT ts x <;> simp
  case round =>
    obtain ⟨left, cnt, A, n, c, l, rfl, hR, hO, hnc, hL, hBel, hwz⟩ := hrel
    have HMS := Lib.hid hR.out.left_
    go_wp2_with (at_next; refine halt_ ?_)
    refine unhalt ?_
    refine wpList_next_rm rfl _ rfl 9 Tryz.underlying9 b w.heap.size N (idxG ts) left cnt rfl hR.out ?_ ?_
    · intro hdone
      have HE : Hid (Asc (srtB l) ∧ ∀ x, x ∈ srtB l ↔ isT ts x = true) := ⟨srtB_asc hL.out.1, fun x => by rw [srtB_mem, hL.out.2 x]; simp [hdone x]⟩
      clear hdone hL
      go_wp2_with (go_at_call 107; refine (sort_any (w.heap.size + 1) n c A l _ hO.out (by omega)).mono ?_; rintro e w' ⟨rfl, hs1, hs2⟩)
      go_ret
      refine ⟨A, n, c, srtB l, rfl, ownsRow_lower hs1 (by omega), by omega, HE.out.1, HE.out.2, hBel.out.grown hs2 (by omega) (fun k hk => by have := ownBlock_ge hO.out k hk; omega)⟩
    · intro s v w2 cnt2 hsz hls hgs hR2 hlt hg2 hz2 hen
      have hst : isT ts s = true := by rw [← idxG_some, hgs]; rfl
      have HL2 : Hid ((l ++ [s]).Nodup ∧ ∀ x, x ∈ l ++ [s] ↔ isT ts x = true ∧ (left x && !decide (x = s)) = false) := by
        obtain ⟨h1, h2⟩ := hL.out
        refine ⟨List.nodup_append.2 ⟨h1, by simp, fun a ha b hb => ?_⟩, fun x => ?_⟩
        · rintro rfl
          rw [List.mem_singleton.1 hb] at ha
          have := ((h2 s).1 ha).2
          rw [hls] at this; cases this
        · rw [List.mem_append, h2 x, List.mem_singleton]
          by_cases e : x = s
          · subst e; simp [hst]
          · simp [e]
      have HO2 : Hid (w2.ownsRow (w.heap.size + 1) 9 1 (.slice A n c) n (strs l)) := hO.out.kept hg2 (by
        cases hv : (Value.slice A n c).ownBlock with
        | none => exact .inl rfl
        | some k => exact .inr (fun e => by have := ownBlock_ge hO.out k hv; cases e; omega))
      have HB2 : Hid (Below w.heap.size w w2) := hBel.out.grown hg2 (by omega) (fun k e => by cases e; omega)
      have HR2 := Lib.hid hR2
      have HSZ := Lib.hid hsz
      clear hR2 hls hgs hg2 hR hO hL hBel hst hsz
      go_wp2_with (at_builtin; refine halt_ ?_)
      refine unhalt ?_
      refine wpList_append_sl (base := w.heap.size + 1) (size := 1) _ rfl (.tmp 11) (.tmp 13) 33 rfl 9 i0 _ 16 Tryz.underlying33 Hi.out Hz0.out Hz1.out Hz2.out rfl (by decide) (.slice A n c) n (strs l) rfl ?own (w2.heap.size + 1) _ 1 _ [.string s] rfl ?nw (by simp [Value.oneCell']) ?l1 ?l2 ?l3 ?_
      case own => exact HO2.out.kept (World.grownBy_alloc w2 _ none) (by cases hv : (Value.slice A n c).ownBlock with | none => exact .inl rfl | some k => exact .inr (by simp))
      case nw => exact ⟨rfl, fun _ => ⟨w2.heap.size, 0, by rw [hz2], Nat.lt_succ_self _, fun j u hu => by have := new_cell w2 9 s j u hu; rwa [Addr.add_lit] at this⟩⟩
      case l1 => unfold maxLen; omega
      case l2 => omega
      case l3 => simp; omega
      intro A3 c3 w3 ho3 hg3 hc3 hc4
      have HO3 : Hid (w3.ownsRow (w.heap.size + 1) 9 1 (.slice A3 (n + 1) c3) (n + 1) (strs (l ++ [s]))) := by
        show World.ownsRow _ _ _ _ _ _ _
        have e : strs (l ++ [s]) = strs l ++ [.string s] := by simp [strs]
        rw [e]; exact ho3
      have hgr : Hid (∀ k, (Value.slice A n c).ownBlock = some k → w.heap.size + 1 ≤ k) := fun k hk => ownBlock_ge HO2.out k hk
      have HB3 : Hid (Below w.heap.size w w3) := (HB2.out.alloc (by omega) _).grown hg3 (by simp; omega) (fun k hk => by have := hgr.out k hk; omega)
      have HR3 := Lib.hid ((HR2.out.kept (World.grownBy_alloc w2 (.cells #[.string s] 9) none) (by simp) (by simp)).kept hg3 (fun e => by have := hgr.out _ e.symm; omega) (fun e => by have := hgr.out _ e.symm; omega))
      have hz3 : w.heap.size + 1 ≤ w3.heap.size := by have := hg3.size; simp at this; omega
      have HMS2 := Lib.hid HR3.out.left_
      clear ho3 hg3 HO2 HB2 HR2 hgr
      go_wp2
      go_roundw
      case rel => exact ⟨_, cnt2, A3, n + 1, c3, l ++ [s], rfl, HR3.out, HO3.out, by omega, HL2.out, HB3.out, hz3⟩
      case measure => rw [HMS.out, HMS2.out]; exact hlt
end Go.Proofs.YtddlohbhchjjhaaGreatDoor

namespace Go.Proofs.YtddlohbhchjjhaaGreatDoor

def noted (pre : List (ByteArray × Nat)) (s : ByteArray) : Option Nat := (pre.reverse.find? (fun x => decide (x.1 = s))).map Prod.snd
theorem noted_snoc (pre : List (ByteArray × Nat)) (y s : ByteArray) (k : Nat) : noted (pre ++ [(y, k)]) s = if s = y then some k else noted pre s := by
  unfold noted
  rw [List.reverse_append]
  simp only [List.reverse_cons, List.reverse_nil, List.nil_append, List.cons_append, List.find?_cons]
  by_cases e : s = y
  · subst e; simp
  · simp [e, Ne.symm e]
theorem noted_mem {pre : List (ByteArray × Nat)} {s : ByteArray} {k : Nat} (h : noted pre s = some k) : (s, k) ∈ pre := by
  unfold noted at h
  obtain ⟨x, hx, rfl⟩ := Option.map_eq_some_iff.1 h
  have h1 := List.find?_some hx
  have h2 := List.mem_reverse.1 (List.mem_of_find?_eq_some hx)
  simp at h1
  rw [← h1]; exact h2
theorem noted_some {pre : List (ByteArray × Nat)} {s : ByteArray} (h : s ∈ pre.map Prod.fst) : ∃ k, noted pre s = some k := by
  unfold noted
  obtain ⟨x, hx, e⟩ := List.mem_map.1 h
  cases hf : pre.reverse.find? (fun x => decide (x.1 = s)) with
  | some y => exact ⟨y.2, rfl⟩
  | none =>
    have := List.find?_eq_none.1 hf x (List.mem_reverse.2 hx)
    simp [e] at this
structure Best (st : ByteArray → Option Nat) (ds : List ByteArray) (x : ByteArray) (k : Nat) : Prop where
  mem : x ∈ ds
  at_ : st x = some k
  low : ∀ d ∈ ds, ∀ j, st d = some j → k < j ∨ (k = j ∧ less d x = false)
def NoneIn (st : ByteArray → Option Nat) (ds : List ByteArray) : Prop := ∀ d ∈ ds, st d = none
def Scan (st : ByteArray → Option Nat) (ds : List ByteArray) (found : Bool) (x : ByteArray) : Prop := (found = false ∧ x = ⟨#[]⟩ ∧ NoneIn st ds) ∨ (found = true ∧ ∃ k, Best st ds x k)
theorem Scan.start (st : ByteArray → Option Nat) : Scan st [] false ⟨#[]⟩ := .inl ⟨rfl, rfl, fun d h => by cases h⟩
theorem Scan.skip {st : ByteArray → Option Nat} {ds : List ByteArray} {f : Bool} {x d : ByteArray} (h : Scan st ds f x) (hd : st d = none) : Scan st (ds ++ [d]) f x := by
  rcases h with ⟨h1, h2, h3⟩ | ⟨h1, k, h2, h3, h4⟩
  · refine .inl ⟨h1, h2, fun e he => ?_⟩
    rcases List.mem_append.1 he with he | he
    · exact h3 e he
    · rw [List.mem_singleton.1 he]; exact hd
  · refine .inr ⟨h1, k, List.mem_append_left _ h2, h3, fun e he j hj => ?_⟩
    rcases List.mem_append.1 he with he | he
    · exact h4 e he j hj
    · rw [List.mem_singleton.1 he, hd] at hj; cases hj
theorem Scan.worse {st : ByteArray → Option Nat} {ds : List ByteArray} {x d : ByteArray} {j k : Nat} (h : Scan st ds true x) (hd : st d = some j) (hk : st x = some k) (hw : k < j ∨ (k = j ∧ less d x = false)) : Scan st (ds ++ [d]) true x := by
  rcases h with ⟨h1, _⟩ | ⟨h1, k', h2, h3, h4⟩
  · cases h1
  · rw [hk] at h3; cases h3
    refine .inr ⟨h1, k, List.mem_append_left _ h2, hk, fun e he j' hj => ?_⟩
    rcases List.mem_append.1 he with he | he
    · exact h4 e he j' hj
    · rw [List.mem_singleton.1 he, hd] at hj; cases hj
      rw [List.mem_singleton.1 he]; exact hw
theorem Scan.first {st : ByteArray → Option Nat} {ds : List ByteArray} {x d : ByteArray} {j : Nat} (h : Scan st ds false x) (hd : st d = some j) : Scan st (ds ++ [d]) true d := by
  rcases h with ⟨_, _, h3⟩ | ⟨h1, _⟩
  · refine .inr ⟨rfl, j, by simp, hd, fun e he j' hj => ?_⟩
    rcases List.mem_append.1 he with he | he
    · rw [h3 e he] at hj; cases hj
    · rw [List.mem_singleton.1 he, hd] at hj; cases hj
      rw [List.mem_singleton.1 he]; exact .inr ⟨rfl, lessB_irrefl _⟩
  · cases h1
theorem Scan.better {st : ByteArray → Option Nat} {ds : List ByteArray} {x d : ByteArray} {j k : Nat} (h : Scan st ds true x) (hd : st d = some j) (hk : st x = some k) (hw : j < k ∨ (j = k ∧ less d x = true)) : Scan st (ds ++ [d]) true d := by
  rcases h with ⟨h1, _⟩ | ⟨h1, k', h2, h3, h4⟩
  · cases h1
  · rw [hk] at h3; cases h3
    refine .inr ⟨rfl, j, by simp, hd, fun e he j' hj => ?_⟩
    rcases List.mem_append.1 he with he | he
    · rcases h4 e he j' hj with h5 | ⟨rfl, h5⟩
      · left; omega
      · rcases hw with hw | ⟨rfl, hw⟩
        · exact .inl hw
        · right
          refine ⟨rfl, ?_⟩
          cases h6 : less e d with
          | false => rfl
          | true => have := lessB_trans h6 hw; rw [this] at h5; cases h5
    · rw [List.mem_singleton.1 he, hd] at hj; cases hj
      rw [List.mem_singleton.1 he]; exact .inr ⟨rfl, lessB_irrefl _⟩
theorem Scan.found {st : ByteArray → Option Nat} {ds : List ByteArray} {x : ByteArray} (h : Scan st ds true x) : ∃ k, Best st ds x k := by
  rcases h with ⟨h1, _⟩ | ⟨_, h⟩
  · cases h1
  · exact h
theorem Scan.unfound {st : ByteArray → Option Nat} {ds : List ByteArray} {x : ByteArray} (h : Scan st ds false x) : NoneIn st ds := by
  rcases h with ⟨_, _, h⟩ | ⟨h1, _⟩
  · exact h
  · cases h1
inductive CycP (nx : ByteArray → List ByteArray) (st : ByteArray → Option Nat) (s : ByteArray) : List ByteArray → ByteArray → Prop
  | one : CycP nx st s [s] s
  | more {c : List ByteArray} {x y : ByteArray} {k : Nat} : CycP nx st s c x → Best st (nx x) y k → y ≠ s → CycP nx st s (c ++ [y]) y
structure Note (nx lu : ByteArray → List ByteArray) (s : ByteArray) (pre : List (ByteArray × Nat)) : Prop where
  got : Got lu s pre
  all : ∀ x, x ∈ pre.map Prod.fst ↔ Rch lu s x
  inv : ∀ d x, x ∈ lu d ↔ d ∈ nx x
def stOf (pre : List (ByteArray × Nat)) (s : ByteArray) : ByteArray → Option Nat := noted (pre ++ [(s, 0)])
theorem stOf_eq (pre : List (ByteArray × Nat)) (s x : ByteArray) : stOf pre s x = if x = s then some 0 else noted pre x := noted_snoc pre s x 0
section
variable {nx lu : ByteArray → List ByteArray} {s : ByteArray} {pre : List (ByteArray × Nat)}
theorem stp_rev (inv : ∀ d x, x ∈ lu d ↔ d ∈ nx x) : ∀ {n : Nat} {a b : ByteArray}, Stp nx n a b → Stp lu n b a
  | 0, a, b, h => (inv b a).2 h
  | _ + 1, _, b, ⟨c, hc, hb⟩ => Stp.cons ((inv b c).2 hb) (stp_rev inv hc)
theorem Note.le (h : Note nx lu s pre) {x : ByteArray} {k : Nat} (hk : stOf pre s x = some k) : k ≤ pre.length := by
  rw [stOf_eq] at hk
  by_cases e : x = s
  · rw [if_pos e] at hk; cases hk; omega
  · rw [if_neg e] at hk
    exact h.got.few _ (noted_mem hk)
theorem Note.less (h : Note nx lu s pre) {x : ByteArray} {k : Nat} (hx : x ≠ s) (hk : stOf pre s x = some k) : ∃ d ∈ nx x, ∃ j, stOf pre s d = some j ∧ j < k := by
  rw [stOf_eq, if_neg hx] at hk
  obtain ⟨p, h1, h2, h3⟩ := h.got.par _ (noted_mem hk)
  simp only at h1 h2
  refine ⟨p.1, (h.inv _ _).1 h1, ?_⟩
  by_cases e : p.1 = s
  · exact ⟨0, by rw [stOf_eq, if_pos e], by omega⟩
  · rcases h3 with h3 | h3
    · rw [h3] at e; exact absurd rfl e
    · obtain ⟨j, hj⟩ := noted_some (pre := pre) (s := p.1) (List.mem_map_of_mem h3)
      have hm := noted_mem hj
      have : (p.1, j) = p := by
        have hn := h.got.nodup
        have : ∀ (l : List (ByteArray × Nat)), (l.map Prod.fst).Nodup → ∀ a ∈ l, ∀ b ∈ l, a.1 = b.1 → a = b := by
          intro l
          induction l with
          | nil => intro _ a ha; cases ha
          | cons c l ih =>
            intro hn a ha b hb hab
            rw [List.map_cons, List.nodup_cons] at hn
            rcases List.mem_cons.1 ha with rfl | ha'
            · rcases List.mem_cons.1 hb with rfl | hb'
              · rfl
              · exact absurd (List.mem_map_of_mem (f := Prod.fst) hb') (by rw [← hab]; exact hn.1)
            · rcases List.mem_cons.1 hb with rfl | hb'
              · exact absurd (List.mem_map_of_mem (f := Prod.fst) ha') (by rw [hab]; exact hn.1)
              · exact ih hn.2 a ha' b hb' hab
        exact this pre hn _ hm _ h3 rfl
      refine ⟨j, by rw [stOf_eq, if_neg e]; exact hj, ?_⟩
      have e2 : j = p.2 := by rw [← this]
      omega
theorem Note.back (h : Note nx lu s pre) (hr : Rch nx s s) : ∃ d ∈ nx s, ∃ j, stOf pre s d = some j := by
  obtain ⟨n, hn⟩ := hr
  cases n with
  | zero => exact ⟨s, hn, 0, by rw [stOf_eq, if_pos rfl]⟩
  | succ n =>
    obtain ⟨d, hd, hs⟩ := Stp.uncons hn
    refine ⟨d, hd, ?_⟩
    by_cases e : d = s
    · exact ⟨0, by rw [stOf_eq, if_pos e]⟩
    · obtain ⟨j, hj⟩ := noted_some ((h.all d).2 ⟨n, stp_rev h.inv hs⟩)
      exact ⟨j, by rw [stOf_eq, if_neg e]; exact hj⟩
end
end Go.Proofs.YtddlohbhchjjhaaGreatDoor

namespace Go.Proofs.YtddlohbhchjjhaaGreatDoor
open Go.RowKit Go.Maps
attribute [local go_sem] Oper.semAt_some

theorem Edg.nxmD {w : World} {bd bu base N : Nat} {gd gu : ByteArray → Option Value} {L : Ix → List ByteArray} {nx : ByteArray → List ByteArray} (h : Edg w bd bu base N gd gu L) (hL : ∀ s, L (false, s) = nx s) : Nxm w w.heap.size bd N gd nx := by
  refine ⟨h.d.lt, h.d, fun s => ?_⟩
  obtain ⟨A, c, hf, h1, h2⟩ := h.rows.form (false, s)
  rw [← hL s]
  exact ⟨A, c, hf, h.rows.sl hf, h1, h2⟩
theorem Edg.nxmU {w : World} {bd bu base N : Nat} {gd gu : ByteArray → Option Value} {L : Ix → List ByteArray} (h : Edg w bd bu base N gd gu L) : Nxm w w.heap.size bu N gu (fun s => L (true, s)) := by
  refine ⟨h.u.lt, h.u, fun s => ?_⟩
  obtain ⟨A, c, hf, h1, h2⟩ := h.rows.form (true, s)
  exact ⟨A, c, hf, h.rows.sl hf, h1, h2⟩
def CycleR (ts : List Tg) (l : List ByteArray) : Prop :=
  (l = [] ∧ ∀ s, ¬ Rch (nxT ts) s s) ∨ (∃ s lu pre x, l ≠ [] ∧ isT ts s = true ∧ Rch (nxT ts) s s ∧ (∀ y, less y s = true → ¬ Rch (nxT ts) y y) ∧ Note (nxT ts) lu s pre ∧ CycP (nxT ts) (stOf pre s) s l x ∧ ∃ k, Best (stOf pre s) (nxT ts x) s k)
def CycEnd (ts : List Tg) (w : World) (e : Ending) (w' : World) : Prop := ∃ A' m c' l, e = .returned (.slice A' m c') ∧ Sl w' w'.heap.size 1 A' m (strs l) ∧ CycleR ts l ∧ Below w.heap.size w w'
def CycEnd2 (ts : List Tg) (w : World) (e : Ending) (w' : World) : Prop := ∃ A' m c' l, e = .returned (.slice A' m c') ∧ Sl w' w'.heap.size 1 A' m (strs l) ∧ CycleR ts l ∧ m ≤ c' ∧ Below w.heap.size w w'
theorem CycEnd2.one {ts : List Tg} {w : World} {e : Ending} {w' : World} (h : CycEnd2 ts w e w') : CycEnd ts w e w' := by
  obtain ⟨A', m, c', l, h1, h2, h3, _, h4⟩ := h
  exact ⟨A', m, c', l, h1, h2, h3, h4⟩
theorem resultsCyc {w : World} {a : Array Value} {v : Value} (ha : a[2]?.getD undef = v) : (results Tryz.f20 a).run Tryz.prog w = .ok v w := by
  simp [results, Tryz.results20, ha, go_sem]
def stG (pre : List (ByteArray × Nat)) : ByteArray → Option Value := fun s => (noted pre s).map fun (k : Nat) => .int .i64 (k : Int)
theorem stG_snoc (pre : List (ByteArray × Nat)) (y : ByteArray) (k : Nat) : stG (pre ++ [(y, k)]) = upd (stG pre) y (.int .i64 k) := by
  funext s
  unfold stG upd
  rw [noted_snoc]
  split <;> rfl
theorem less_str (a b : ByteArray) : Op.bytesLess a.toList b.toList = less a b := by
  rw [ByteArray.toList_eq, ByteArray.toList_eq]; rfl
theorem stG_stOf (xs : List (ByteArray × Nat)) (x s : ByteArray) : stG (xs ++ [(x, 0)]) s = (stOf xs x s).map fun (k : Nat) => .int .i64 (k : Int) := by unfold stG stOf; rfl
def At (st : ByteArray → Option Nat) (s cur : ByteArray) (most m : Nat) (cyc : List ByteArray) : Prop := (cur = s ∧ m = most + 2 ∧ cyc = [s]) ∨ (cur ≠ s ∧ st cur = some m)
set_option maxRecDepth 100000 in
set_option maxHeartbeats 8000000 in
theorem cycle_any2 (A : Option Addr) (n c B M : Nat) (ts : List Tg) (w : World) (h0 : Sl w B 4 A n (flat tgC ts)) (hok : ∀ t ∈ ts, TgOk w B t) (hB : B ≤ w.heap.size) (hn : n ≤ 1000) (hdm : ∀ t ∈ ts, t.deps.length ≤ M) (hM1 : M ≤ 1000) :
    Calls Tryz.prog 20 #[.slice A n c] w (CycEnd2 ts w) := by
  refine (callsIn_wide (n := 6)).1 ?_
  have hf1 : Fence.wide.fn 65 := trivial
  have hf2 : Fence.wide.fn 53 := trivial
  have hf3 : Fence.wide.fn 62 := trivial
  have hf4 : Fence.wide.fn 63 := trivial
  have hf5 : Fence.wide.fn 64 := trivial
  have HTL := Lib.hid (h0.len tgC_len (by omega))
  have H0 := Lib.hid h0; have HOK := Lib.hid hok; have HDM := Lib.hid hdm
  clear h0 hok hdm
  refine callsIn_of_wp_marks Tryz.func20 rfl trivial ?_ rfl
  simp only [Tryz.ntmps20, List.size_toArray, List.length_cons, List.length_nil, Nat.reduceAdd, Nat.reduceSub, Array.replicate_succ, Array.replicate_zero, List.push_toArray, List.append_toArray, List.nil_append, List.cons_append]
  gi_wp2_with (gi_at_call 53; refine (callsIn_wide.2 (index_any A n c B ts w H0.out hB (by omega) (fun t ht => (HOK.out t ht).ls))).mono ?_; rintro e w1 ⟨rfl, hM1', hb1⟩; refine halt_ ?_)
  refine unhalt ?_
  have HM := Lib.hid hM1'; have HB1 := Lib.hid hb1
  have hz1 : w.heap.size < w1.heap.size := HM.out.lt
  clear hM1' hb1
  have HE1 := Lib.hid (edges_any w.heap.size n M B ts w1 HM.out (fun t ht => (HOK.out t ht).below HB1.out hB) (by omega) hn HDM.out hM1)
  gi_wp2_with (gi_at_call 62; refine (callsIn_wide.2 HE1.out).mono ?_; rintro e w2 ⟨rfl, gd, gu, L, hE, hLd, hLu, hb2⟩; refine halt_ ?_)
  refine unhalt ?_
  have HE := Lib.hid hE; have HLd := Lib.hid hLd; have HLu := Lib.hid hLu; have HB2 := Lib.hid hb2
  have hz2 : w1.heap.size + 1 < w2.heap.size := HE.out.u.lt
  clear hE hLd hLu hb2 HE1
  have HK1 := Lib.hid (sortedKeys_any w.heap.size n ts w2 (HM.out.below HB2.out hz1) hn)
  gi_wp2_with (gi_at_call 63; refine (callsIn_wide.2 HK1.out).mono ?_; rintro e w3 ⟨kA, kn, kc, keys, rfl, hko, hkn, hka, hkm, hb3⟩; refine halt_ ?_)
  refine unhalt ?_
  have HKA := Lib.hid hka; have HKM := Lib.hid hkm; have HB3 := Lib.hid hb3
  have HKS := Lib.hid (Sl.of_own hko)
  have HKL : Hid (keys.length = kn) := by have := hko.1; rw [strs_len] at this; show _ = _; omega
  have HND := Lib.hid ((HE.out.nxmD HLd.out).below HB3.out (Nat.le_refl _))
  have HNU := Lib.hid (HE.out.nxmU.below HB3.out (Nat.le_refl _))
  have HU : Hid (∀ x, ∀ y ∈ nxT ts x, y ∈ ts.map Tg.lab) := fun x y hy => (isT_iff ts y).1 (nxT_mem hy).1
  have HU2 : Hid (∀ x, ∀ y ∈ L (true, x), y ∈ ts.map Tg.lab) := fun x y hy => (isT_iff ts y).1 (nxT_mem ((HLu.out x y).1 hy)).2
  have HUl : Hid ((ts.map Tg.lab).length ≤ 1000) := by show _ ≤ _; rw [List.length_map, HTL.out]; exact hn
  have HUs : Hid (∀ y ∈ ts.map Tg.lab, y.size ≤ maxLen) := fun y hy => by
    obtain ⟨t, ht, rfl⟩ := List.mem_map.1 hy
    exact (HOK.out t ht).ls
  have HBW : Hid (Below w.heap.size w w3) := (HB1.out.trans (HB2.out.mono (by omega))).trans (HB3.out.mono (by omega))
  have hz3 : w2.heap.size ≤ w3.heap.size := HB3.out.size
  clear hka hkm hb3 hko HE HK1 HM HB1 HB2 HB3 H0
  gi_wp2
  gi_loopw [28] (fun i wr => ∃ k : Nat, k ≤ kn ∧ i = .int .i64 k ∧ Hid (Below w3.heap.size w3 wr) ∧ Hid (∀ j y, j < k → keys[j]? = some y → ¬ Rch (nxT ts) y y)) (fun i _ => kn - (intOf i).toNat)
  case atStart => exact ⟨0, Nat.zero_le _, rfl, Below.refl _ _, fun j y h => absurd h (by omega)⟩
  case round =>
    obtain ⟨k, hk, rfl, hBr, hNo⟩ := hrel
    by_cases hlt : k < kn
    · obtain ⟨kb, ko, x, rfl, hkb, hx, y0⟩ := (HKS.out.below hBr.out (Nat.le_refl _)).str_at hlt
      have hxT : isT ts x = true := (HKM.out x).1 (List.mem_of_getElem? hx)
      have hxs : x.size ≤ maxLen := HUs.out x ((isT_iff ts x).1 hxT)
      have hlz : (k : Int) < (kn : Int) := by omega
      have HX := Lib.hid hx; have HXT := Lib.hid hxT
      have HR1 := Lib.hid (returns_any w2.heap.size w1.heap.size 2000000 x gd (nxT ts) (ts.map Tg.lab) wr (HND.out.below hBr.out hz3) (Nat.le_trans hz3 hBr.out.size) HU.out HUl.out HUs.out hxs)
      clear hx hxT
      gi_wp2_with (gi_at_call 64; refine (callsIn_wide.2 HR1.out).mono ?_; rintro e w4 ⟨r, rfl, hr, hb4⟩; refine halt_ ?_)
      refine unhalt ?_
      have HR := Lib.hid hr
      have HB4 : Hid (Below w3.heap.size w3 w4) := hBr.out.trans (hb4.mono hBr.out.size)
      clear hr hb4 HR1 hBr y0
      cases r with
      | false =>
        have HN2 : Hid (∀ j y, j < k + 1 → keys[j]? = some y → ¬ Rch (nxT ts) y y) := fun j y hj hy => by
          by_cases e : j = k
          · subst e
            rw [HX.out] at hy; cases hy
            intro h; have := HR.out.2 h; cases this
          · exact hNo.out j y (by omega) hy
        gi_wp2
        go_roundw
        case rel => exact ⟨k + 1, hlt, by go_num, HB4.out, HN2.out⟩
        case measure => simp [intOf]; omega
      | true =>
        have HRX := Lib.hid (HR.out.1 rfl)
        clear HR
        have hmm := @run_makeMap Tryz.prog
        gi_wp2_with (gi_at_call 65; refine (callsIn_wide.2 (reached_any _ _ _)).mono ?_; rintro e w' ⟨rfl, rfl⟩)
        obtain ⟨W1, hW1⟩ : ∃ W1, (w4.alloc (.map #[] 0)).alloc (.cells #[.map (some w4.heap.size)] 86) = W1 := ⟨_, rfl⟩
        have hy1 : W1.heap.size = w4.heap.size + 2 := by rw [← hW1]; simp
        have hbb : Below w4.heap.size w4 W1 := by rw [← hW1]; exact ((Below.refl _ w4).alloc (Nat.le_refl _) _).alloc (by simp) _
        have g0 : Rm W1 Tryz.prog 9 w4.heap.size 0 (stG []) := by rw [← hW1]; exact (Rm.made w4 Tryz.prog 9).alloc _
        have g1 : W1.heap[w4.heap.size + 1]? = some (.cells #[.map (some w4.heap.size)] 86 (0, 0)) := by
          rw [← hW1]
          have := World.alloc_heap_new (w4.alloc (.map #[] 0)) (.cells #[.map (some w4.heap.size)] 86); rwa [World.size_alloc] at this
        have hnx : NxR ((W1.alloc (.cells #[.map (some (w1.heap.size + 1))] 81)).alloc (.cells #[.string x] 9)) Tryz.prog 9 81 w2.heap.size (w4.heap.size + 1 + 1 + 1) (w4.heap.size + 1 + 1) (w1.heap.size + 1) 2000000 x gu (fun s => L (true, s)) := by
          have := ((HNU.out.below HB4.out hz3).below hbb (by have := HB4.out.size; omega)).boxed (by have := HB4.out.size; omega) x
          rw [hy1] at this; exact this
        rw [hW1]
        obtain ⟨W2, hW2⟩ : ∃ W2, (W1.alloc (.cells #[.map (some (w1.heap.size + 1))] 81)).alloc (.cells #[.string x] 9) = W2 := ⟨_, rfl⟩
        have hy2 : W2.heap.size = w4.heap.size + 4 := by rw [← hW2]; simp; omega
        have hb12 : Below W1.heap.size W1 W2 := by rw [← hW2]; exact ((Below.refl _ W1).alloc (Nat.le_refl _) _).alloc (by simp) _
        have hb2 : Below w4.heap.size w4 W2 := hbb.trans (hb12.mono (by omega))
        replace g0 := g0.below hb12 (by omega)
        replace g1 := (hb12.block (w4.heap.size + 1) (by omega)).trans g1
        rw [hW2] at hnx ⊢
        clear hW1 hW2 hb12 hbb hy1 W1
        have hz4 := HB4.out.size
        refine wpIn_rangeT (α := ByteArray × Nat) (F := Fence.wide) (n := 6) rfl (by omega) (gf := 108) (lb := #[.pointer (some ⟨w4.heap.size + 1 + 1 + 1, 0, none⟩), .pointer (some ⟨w4.heap.size + 1 + 1, 0, none⟩)]) rfl trivial (enters_of Tryz.func108 (by kernel_rfl) rfl)
          (reached_st 5 (by omega) w2.heap.size (w4.heap.size + 1 + 1 + 1) (w4.heap.size + 1 + 1) (w1.heap.size + 1) 2000000 (W2.heap.size + 2) x gu (fun s => L (true, s)) (ts.map Tg.lab) W2 hnx (by omega) (by omega) (by omega) (by omega) HU2.out HUl.out HUs.out hxs) KeepR.trans (fun W l r o' hl hlr => keepR_put W l r o' hlr (by omega) (by omega)) (fun A C h hA => stepR_rec h rfl hA) (Below.refl _ _) (fun _ => rfl)
          (fun pre W => W.heap[w4.heap.size + 1]? = some (.cells #[.map (some w4.heap.size)] 86 (0, 0)) ∧ Rm W Tryz.prog 9 w4.heap.size pre.length (stG pre) ∧ Below w4.heap.size w4 W ∧ w4.heap.size + 4 ≤ W.heap.size)
          (fun _ _ _ => False)
          ?hI ?hIx ?hIS ⟨g1, g0, hb2, by omega⟩ ?a1 ?assign ?body ?done ?stop
        case assign =>
          intro l y W K hK
          have HKK := Lib.hid hK
          clear hK
          gi_wp2
          exact HKK.out
        case hI =>
          rintro pre A C row ⟨h0, h1, h2, h3⟩ hg hr
          refine ⟨one_grown h0 hg (fun e => ?_), h1.kept hg (fun e => ?_), h2.grown hg h2.size (fun k e => ?_), Nat.le_trans h3 hg.size⟩
          · have := (hr _ e.symm).1; omega
          · have := (hr _ e.symm).1; omega
          · have := (hr _ e).1; omega
        case hIx => rintro c pre A C row hf _ _; exact hf
        case hIS =>
          rintro pre A C ⟨h0, h1, h2, h3⟩ hs
          exact ⟨(hs.block _ (by omega) (.inl (by omega))).trans h0, h1.block (hs.block _ (by omega) (.inl (by omega))), hs.below h2 (by omega) (by omega), Nat.le_trans h3 hs.size⟩
        case stop => rintro D c pre W hD hS hf hK; exact hf.elim
        case body =>
          rintro l pre y W hpf hWz ⟨h0, h1, h2, h3⟩
          have c0 := cell_of_one h0
          have H0 := Lib.hid h0; have H1 := Lib.hid h1; have H2 := Lib.hid h2
          have hpl := hpf.len HU2.out
          have hys : y.1.size ≤ maxLen := HUs.out y.1 ((hpf.sound y.1 (by simp)).mem HU2.out)
          have HUl' := HUl.out
          obtain ⟨y, ky⟩ := y
          simp only [List.length_append, List.length_cons, List.length_nil] at hpl
          simp only at hys
          clear h0 h1 h2 g0 g1 hb2 hnx hpf
          gi_wp2_with (gi_at_mapUpdate; refine halt_ ?_)
          refine unhalt ?_
          refine wpListIn_put_rm rfl _ _ _ 86 rfl 9 3 Tryz.underlying9 Tryz.underlying86 w4.heap.size pre.length (stG pre) rfl H1.out (by unfold maxLen; omega) y hys (.int .i64 ky) rfl rfl ?_
          intro w6 hM6 hg6
          rw [← stG_snoc] at hM6
          have HM6 := Lib.hid hM6; have HG6 := Lib.hid hg6
          clear hM6 hg6
          gi_wp2
          refine ⟨⟨HG6.out.block _ (by omega) (by simp; omega), HG6.out.block _ (by omega) (by simp; omega)⟩, ⟨HG6.out.size, fun j hj hc => HG6.out.block j hj (fun e => ?_)⟩, one_grown H0.out HG6.out (by simp), by rw [List.length_append]; exact HM6.out, H2.out.grown HG6.out (by omega) (fun k e => by cases e; omega), Nat.le_trans h3 HG6.out.size⟩
          have e' : j = w4.heap.size := by injection e
          subst e'
          rcases hc with h | h | h
          · omega
          · obtain ⟨_, ⟨_, _, h1, _⟩, _⟩ := H1.out
            rw [h1] at h; exact h
          · omega
        case done =>
          rintro D xs W hD ⟨hgot, hS⟩ ⟨h0, h1, h2, h3⟩ hK
          have c0 := cell_of_one h0
          have HNo : Hid (Note (nxT ts) (fun s => L (true, s)) x xs) := ⟨hgot, hS, HLu.out⟩
          have hpl := hgot.len HU2.out
          have HUl' := HUl.out
          have H0 := Lib.hid h0; have H1 := Lib.hid h1; have HK := Lib.hid hK
          have HBW5 : Hid (Below w4.heap.size w4 W) := h2
          clear h0 h1 h2 hK hgot hS g0 g1 hb2 hnx
          gi_wp2_with (gi_at_mapUpdate; refine halt_ ?_)
          refine unhalt ?_
          refine wpListIn_put_rm rfl _ _ _ 86 rfl 9 3 Tryz.underlying9 Tryz.underlying86 w4.heap.size xs.length (stG xs) rfl H1.out (by unfold maxLen; omega) x hxs (.int .i64 (0 : Nat)) rfl rfl ?_
          intro w6 hM6 hg6
          rw [← stG_snoc] at hM6
          have HM6 := Lib.hid hM6
          have HB6 : Hid (Below w4.heap.size w4 w6) := HBW5.out.grown hg6 HBW5.out.size (fun k e => by cases e; omega)
          have HX6 := Lib.hid (one_grown H0.out hg6 (by simp))
          have HD6 : Hid (w6.heap[D]? = some (.deferred (some []))) := (hg6.block D (Array.getElem?_eq_some_iff.1 HK.out).1 (by simp; omega)).trans HK.out
          have hz6 := hg6.size
          clear hM6 hg6 H0 H1 HK HBW5 c0
          gi_wp2
          have HO7 : Hid ((w6.alloc (.cells #[.string x] 9)).ownsRow w6.heap.size 9 1 (.slice (some ⟨w6.heap.size, 0, none⟩) 1 1) 1 (strs [x])) :=
            ⟨rfl, .inr ⟨w6.heap.size, 1, #[.string x], rfl, Nat.le_refl _, World.alloc_heap_new w6 _, Nat.le_refl _, by unfold maxLen; omega, rfl, rfl⟩⟩
          obtain ⟨i0, hi, hz0, hz1', hz2'⟩ := info_parts infoStr
          have Hi := Lib.hid hi; have Hz0 := Lib.hid hz0; have Hz1 := Lib.hid hz1'; have Hz2 := Lib.hid hz2'
          clear hi hz0 hz1' hz2'
          gi_loopg [11] (xs.length + 2) (fun m q wr => ∃ (Ac : Option Addr) (mc cc : Nat) (cyc : List ByteArray) (cur : ByteArray), q = .slice Ac (mc + 1) cc ∧ Hid (wr.ownsRow w6.heap.size 9 1 (.slice Ac (mc + 1) cc) (mc + 1) (strs cyc)) ∧ Hid (CycP (nxT ts) (stOf xs x) x cyc cur) ∧ cyc[mc]? = some cur ∧ Hid (At (stOf xs x) x cur xs.length m cyc) ∧ mc + m ≤ xs.length + 2 ∧ Hid (Below w6.heap.size w6 wr))
          case atStart => exact ⟨_, 0, 1, [x], x, rfl, HO7.out, CycP.one, rfl, .inl ⟨rfl, rfl, rfl⟩, by omega, (Below.refl _ w6).alloc (Nat.le_refl _) _⟩
          case round =>
            obtain ⟨Ac, mc, cc, cyc, cur, rfl, hO, hC, hcur, hAt, hmc, hBel⟩ := hrel
            obtain ⟨cb, co, x', rfl, hcb, hx', y1⟩ := (Sl.of_own hO.out).str_at (Nat.lt_succ_self mc)
            rw [hcur] at hx'
            cases hx'
            have HCU := Lib.hid hcur
            have hz7 := hBel.out.size
            have HB7 : Hid (Below w4.heap.size w4 wr) := HB6.out.trans (hBel.out.mono (by have := HB6.out.size; omega))
            have HM7 := Lib.hid (HM6.out.below hBel.out (by omega))
            have HX7 : Hid (wr.heap[w4.heap.size + 1]? = some (.cells #[.map (some w4.heap.size)] 86 (0, 0))) := (hBel.out.block _ (by omega)).trans HX6.out
            have c1 := cell_of_one HX7.out
            have HND7 := Lib.hid ((HND.out.below HB4.out hz3).below HB7.out (by omega))
            have hcs : cur.size ≤ maxLen := by
              rcases hAt.out with ⟨e, _⟩ | ⟨e1, e2⟩
              · rw [e]; exact hxs
              · rw [stOf_eq, if_neg e1] at e2
                exact HUs.out cur ((HNo.out.got.sound cur (List.mem_map_of_mem (f := Prod.fst) (noted_mem e2))).mem HU2.out)
            obtain ⟨An, cn, hgn, hSn, hcn, hcn'⟩ := HND7.out.rows cur
            have hlk := HND7.out.map.look Tryz.underlying9 Tryz.underlying81 (Tryz.zeroValue33 _) hcs
            have hlk2 : (Instr.lookup 81 (.map (some w1.heap.size)) (.string cur) false).run Tryz.prog wr = .ok (.slice An (nxT ts cur).length cn) wr := by rw [← hgn]; exact hlk
            have HSn := Lib.hid hSn
            have hnl : (nxT ts cur).length ≤ 9223372036854775807 := by have := Nat.le_trans hcn hcn'; unfold maxLen at this; omega
            clear hlk hgn hSn hcur
            gi_wp2
            gi_loopw [12, 13, 58] (fun a b i wi => ∃ (j : Nat) (f : Bool) (nx' : ByteArray), j ≤ (nxT ts cur).length ∧ a = .string nx' ∧ b = .bool f ∧ i = .int .i64 j ∧ Hid (Scan (stOf xs x) ((nxT ts cur).take j) f nx') ∧ wi = wr) (fun _ _ i _ => (nxT ts cur).length - (intOf i).toNat)
            case atStart => exact ⟨0, false, ⟨#[]⟩, Nat.zero_le _, rfl, rfl, rfl, Scan.start _, rfl⟩
            case round =>
              obtain ⟨j, f, nx', hj, rfl, rfl, rfl, hSc, rfl⟩ := hrel
              by_cases hjn : j < (nxT ts cur).length
              · obtain ⟨rb, ro, d, rfl, hrb, hd, y2⟩ := HSn.out.str_at hjn
                have hds : d.size ≤ maxLen := HUs.out d (HU.out cur d (List.mem_of_getElem? hd))
                have HTK := Lib.hid (take_snoc hd)
                have hlz : (j : Int) < ((nxT ts cur).length : Int) := by omega
                have hl1 := HM7.out.look_ok Tryz.underlying9 Tryz.underlying86 (Tryz.zeroValue3 _) hds
                rw [stG_stOf] at hl1
                clear hd
                cases hsd : stOf xs x d with
                | none =>
                  rw [hsd] at hl1
                  simp only [Option.map_none, Option.getD_none, Option.isSome_none] at hl1
                  have HS2 := Lib.hid (hSc.out.skip hsd)
                  rw [← HTK.out] at HS2
                  clear hsd hSc
                  gi_wp2
                  go_roundw
                  case rel => exact ⟨j + 1, f, nx', hjn, rfl, rfl, by go_num, HS2.out, trivial⟩
                  case measure => simp [intOf]; omega
                | some jd =>
                  rw [hsd] at hl1
                  simp only [Option.map_some, Option.getD_some, Option.isSome_some] at hl1
                  have HJD := Lib.hid hsd
                  clear hsd
                  cases f with
                  | false =>
                    have HS2 := Lib.hid (hSc.out.first HJD.out)
                    rw [← HTK.out] at HS2
                    clear hSc
                    gi_wp2
                    go_roundw
                    case rel => exact ⟨j + 1, true, d, hjn, rfl, rfl, by go_num, HS2.out, trivial⟩
                    case measure => simp [intOf]; omega
                  | true =>
                    obtain ⟨kx, hkx⟩ := hSc.out.found
                    have hns : nx'.size ≤ maxLen := HUs.out nx' (HU.out cur nx' (List.mem_of_mem_take hkx.mem))
                    have hl2 := HM7.out.look Tryz.underlying9 Tryz.underlying86 (Tryz.zeroValue3 _) hns
                    rw [stG_stOf, hkx.at_] at hl2
                    simp only [Option.map_some, Option.getD_some] at hl2
                    have HKX := Lib.hid hkx.at_
                    clear hkx
                    by_cases hlt1 : jd < kx
                    · have HS2 := Lib.hid (hSc.out.better HJD.out HKX.out (.inl hlt1))
                      rw [← HTK.out] at HS2
                      have hi1 : (jd : Int) < (kx : Int) := by omega
                      clear hSc hlt1
                      gi_wp2
                      go_roundw
                      case rel => exact ⟨j + 1, true, d, hjn, rfl, rfl, by go_num, HS2.out, trivial⟩
                      case measure => simp [intOf]; omega
                    · have hi1 : ¬ (jd : Int) < (kx : Int) := by omega
                      by_cases heq : jd = kx
                      · subst heq
                        cases hle : less d nx' with
                        | true =>
                          have HS2 := Lib.hid (hSc.out.better HJD.out HKX.out (.inr ⟨rfl, hle⟩))
                          rw [← HTK.out] at HS2
                          have hl3 : Op.bytesLess d.toList nx'.toList = true := (less_str _ _).trans hle
                          clear hSc hlt1 hle
                          gi_wp2
                          go_roundw
                          case rel => exact ⟨j + 1, true, d, hjn, rfl, rfl, by go_num, HS2.out, trivial⟩
                          case measure => simp [intOf]; omega
                        | false =>
                          have HS2 := Lib.hid (hSc.out.worse HJD.out HKX.out (.inr ⟨rfl, hle⟩))
                          rw [← HTK.out] at HS2
                          have hl3 : Op.bytesLess d.toList nx'.toList = false := (less_str _ _).trans hle
                          clear hSc hlt1 hle
                          gi_wp2
                          go_roundw
                          case rel => exact ⟨j + 1, true, nx', hjn, rfl, rfl, by go_num, HS2.out, trivial⟩
                          case measure => simp [intOf]; omega
                      · have HS2 := Lib.hid (hSc.out.worse HJD.out HKX.out (.inl (by omega)))
                        rw [← HTK.out] at HS2
                        have hi2 : ((jd : Int) == (kx : Int)) = false := by rw [beq_eq_false_iff_ne]; omega
                        clear hSc hlt1 heq
                        gi_wp2
                        go_roundw
                        case rel => exact ⟨j + 1, true, nx', hjn, rfl, rfl, by go_num, HS2.out, trivial⟩
                        case measure => simp [intOf]; omega
              · have hlz : ¬ (j : Int) < ((nxT ts cur).length : Int) := by omega
                have HS2 : Hid (Scan (stOf xs x) (nxT ts cur) f nx') := by
                  have h1 := hSc.out; rwa [List.take_of_length_le (by omega)] at h1
                have hft : f = true := by
                  cases f with
                  | true => rfl
                  | false =>
                    have hno := HS2.out.unfound
                    rcases hAt.out with ⟨e, _⟩ | ⟨e1, e2⟩
                    · obtain ⟨d, hd, jd, hjd⟩ := HNo.out.back HRX.out
                      rw [e, ] at hno
                      rw [hno d hd] at hjd; cases hjd
                    · obtain ⟨d, hd, jd, hjd, _⟩ := HNo.out.less e1 e2
                      rw [hno d hd] at hjd; cases hjd
                subst hft
                obtain ⟨kb2, hbest⟩ := HS2.out.found
                have HBE := Lib.hid hbest
                clear hSc HS2 hbest
                by_cases hnx : nx' = x
                · subst hnx
                  have HCR : Hid (CycleR ts cyc) := .inr ⟨nx', _, xs, cur, fun e => by have := HCU.out; rw [e] at this; simp at this, HXT.out, HRX.out, fun y hy hr => by
                    obtain ⟨q, hq, e⟩ := List.getElem_of_mem ((HKM.out y).2 (rch_isT hr))
                    have hqk : q < k := by
                      rcases Nat.lt_or_ge q k with h | h
                      · exact h
                      · have hX := HX.out
                        have hkl := (List.getElem?_eq_some_iff.1 hX).1
                        have hX2 := (List.getElem?_eq_some_iff.1 hX).2
                        rcases Nat.eq_or_lt_of_le h with h | h
                        · subst h
                          rw [hX2] at e; subst e
                          rw [lessB_irrefl] at hy; cases hy
                        · have := List.pairwise_iff_getElem.1 HKA.out k q hkl hq h
                          rw [e, hX2] at this
                          rw [lessB_asymm this] at hy; cases hy
                    exact hNo.out q y hqk (by rw [← e]; exact List.getElem?_eq_getElem _) hr, HNo.out, hC.out, kb2, HBE.out⟩
                  have HD8 : Hid (wr.heap[D]? = some (.deferred (some []))) := (hBel.out.block D (by have := (Array.getElem?_eq_some_iff.1 HD6.out).1; omega)).trans HD6.out
                  gi_wp2
                  refine ⟨by simp, .inl ⟨_, _, rfl, run_takeDeferred HD8.out, ?_⟩⟩
                  refine ⟨_, resultsCyc rfl, _, _, _, cyc, rfl, ?_, HCR.out, ?_, ?_⟩
                  · refine Sl.of_own (hO.out.kept (grownBy_putObj' _ _ _) ?_)
                    cases hv : (Value.slice (some ⟨cb, co, none⟩) (mc + 1) cc).ownBlock with
                    | none => exact .inl rfl
                    | some q => exact .inr (fun e => by have h1 := ownBlock_ge hO.out q hv; have h2 := (Array.getElem?_eq_some_iff.1 HD6.out).1; cases e; omega)
                  · obtain ⟨An, cn, hfn, hle, _⟩ := ownsRow_form hO.out
                    injection hfn with _ _ hfn
                    omega
                  · have h1 : Below w.heap.size w wr := (HBW.out.trans (HB4.out.mono HBW.out.size)).trans (HB7.out.mono (by have := HBW.out.size; omega))
                    exact h1.grown (grownBy_putObj' _ _ _) h1.size (fun q e => by have := HBW.out.size; cases e; omega)
                · have hns := str_ne hnx
                  have HNX := Lib.hid hnx
                  have HC2 := Lib.hid (CycP.more hC.out HBE.out hnx)
                  have HA2 : Hid (At (stOf xs x) x nx' xs.length kb2 (cyc ++ [nx'])) := .inr ⟨hnx, HBE.out.at_⟩
                  have hk1 : kb2 < gk := by
                    rcases hAt.out with ⟨_, e, _⟩ | ⟨e1, e2⟩
                    · have := HNo.out.le HBE.out.at_; omega
                    · obtain ⟨d, hd, jd, hjd, hlt'⟩ := HNo.out.less e1 e2
                      rcases HBE.out.low d hd jd hjd with h | ⟨h, _⟩ <;> omega
                  have HCL : Hid (cyc.length = mc + 1) := by have := hO.out.1; rw [strs_len] at this; show _ = _; omega
                  clear hnx
                  gi_wp2_with (gi_at_builtin; refine halt_ ?_)
                  refine unhalt ?_
                  refine wpListIn_append_sl (base := w6.heap.size) (size := 1) rfl (.tmp 102) (.tmp 104) 33 rfl 9 i0 _ 16 Tryz.underlying33 Hi.out Hz0.out Hz1.out Hz2.out rfl (by decide) (.slice (some ⟨cb, co, none⟩) (mc + 1) cc) (mc + 1) (strs cyc) rfl ?own (wr.heap.size + 1) _ 1 _ [.string nx'] rfl ?nw (by simp [Value.oneCell']) ?l1 ?l2 ?l3 ?_
                  case own => exact hO.out.kept (World.grownBy_alloc wr _ none) (by cases hv : (Value.slice (some ⟨cb, co, none⟩) (mc + 1) cc).ownBlock with | none => exact .inl rfl | some k => exact .inr (by simp))
                  case nw => exact ⟨rfl, fun _ => ⟨wr.heap.size, 0, rfl, Nat.lt_succ_self _, fun j u hu => by have := new_cell wr 9 nx' j u hu; rwa [Addr.add_lit] at this⟩⟩
                  case l1 => unfold maxLen; omega
                  case l2 => omega
                  case l3 => simp; omega
                  intro A3 c3 w8 ho3 hg3 hc3 hc4
                  have HO3 : Hid (w8.ownsRow w6.heap.size 9 1 (.slice A3 (mc + 1 + 1) c3) (mc + 1 + 1) (strs (cyc ++ [nx']))) := by
                    show World.ownsRow _ _ _ _ _ _ _
                    have e : strs (cyc ++ [nx']) = strs cyc ++ [.string nx'] := by simp [strs]
                    rw [e]; exact ho3
                  have HB8 : Hid (Below w6.heap.size w6 w8) := (hBel.out.alloc (by omega) _).grown hg3 (by simp; omega) (fun k hk => ownBlock_ge hO.out k hk)
                  have HL8 : Hid ((cyc ++ [nx'])[mc + 1]? = some nx') := by
                    show _ = _
                    rw [← HCL.out]; simp
                  clear ho3 hg3 hlk2 c1 y1
                  gi_wp2
                  gi_roundg kb2
                  case rel => exact ⟨A3, mc + 1, c3, cyc ++ [nx'], nx', rfl, HO3.out, HC2.out, HL8.out, HA2.out, by omega, HB8.out⟩
                  case measure => exact hk1
    · have hlz : ¬ (k : Int) < (kn : Int) := by omega
      have HF : Hid (∀ s, ¬ Rch (nxT ts) s s) := fun s hs => by
        obtain ⟨j, hj, e⟩ := List.getElem_of_mem ((HKM.out s).2 (rch_isT hs))
        exact hNo.out j s (by have := HKL.out; omega) (by rw [← e]; exact List.getElem?_eq_getElem _) hs
      clear hNo
      gi_wp2
      refine ⟨_, resultsCyc rfl, none, 0, 0, [], rfl, Sl.nil _ _ _ _, .inl ⟨rfl, HF.out⟩, Nat.le_refl _, HBW.out.trans (hBr.out.mono HBW.out.size)⟩
theorem cycle_any (A : Option Addr) (n c B M : Nat) (ts : List Tg) (w : World) (h0 : Sl w B 4 A n (flat tgC ts)) (hok : ∀ t ∈ ts, TgOk w B t) (hB : B ≤ w.heap.size) (hn : n ≤ 1000) (hdm : ∀ t ∈ ts, t.deps.length ≤ M) (hM1 : M ≤ 1000) :
    Calls Tryz.prog 20 #[.slice A n c] w (CycEnd ts w)  :=
  (cycle_any2 A n c B M ts w h0 hok hB hn hdm hM1).mono fun _ _ h => h.one
end Go.Proofs.YtddlohbhchjjhaaGreatDoor

namespace Go.Proofs.YtddlohbhchjjhaaGreatDoor
open Go.RowKit

def putAll (a : Act) : List (Tmp × Value) → Act
  | [] => a
  | p :: r => putAll (a.put (some p.1) p.2) r

theorem put_put (a : Act) (d : Tmp) (v u : Value) : (a.put (some d) v).put (some d) u = a.put (some d) u := by
  simp [Act.put]
theorem putAll_put (a : Act) (d : Tmp) (v : Value) : ∀ (l : List (Tmp × Value)), (∀ p ∈ l, p.1 ≠ d) → putAll (a.put (some d) v) l = (putAll a l).put (some d) v
  | [], _ => rfl
  | p :: l, h => by
    have hne : p.1 ≠ d := h p (by simp)
    show putAll ((a.put (some d) v).put (some p.1) p.2) l = (putAll (a.put (some p.1) p.2) l).put (some d) v
    rw [Act.put_comm a v p.2 (x := some d) (y := some p.1) (fun x hx e => by cases hx; cases e; exact hne rfl)]
    exact putAll_put _ d v l (fun q hq => h q (by simp [hq]))
theorem putAll_set (a : Act) : ∀ (ds : List Tmp) (vs : List Value) (i : Nat) (d : Tmp) (v : Value), ds.Nodup → ds.length = vs.length → ds[i]? = some d →
    putAll a (ds.zip (vs.set i v)) = (putAll a (ds.zip vs)).put (some d) v
  | [], _, _, _, _, _, _, h => by simp at h
  | d0 :: ds, [], _, _, _, _, hl, _ => by simp at hl
  | d0 :: ds, v0 :: vs, 0, d, v, hn, hl, h => by
    simp only [List.getElem?_cons_zero, Option.some.injEq] at h; subst h
    have hnd := List.nodup_cons.1 hn
    have hm : ∀ p ∈ ds.zip vs, p.1 ≠ d0 := fun p hp e => hnd.1 (by have := (List.of_mem_zip hp).1; rwa [e] at this)
    show putAll (a.put (some d0) v) (ds.zip vs) = (putAll (a.put (some d0) v0) (ds.zip vs)).put (some d0) v
    rw [putAll_put _ _ _ _ hm, putAll_put _ _ _ _ hm, put_put]
  | d0 :: ds, v0 :: vs, i + 1, d, v, hn, hl, h => by
    simp only [List.getElem?_cons_succ] at h
    show putAll (a.put (some d0) v0) (ds.zip (vs.set i v)) = (putAll (a.put (some d0) v0) (ds.zip vs)).put (some d) v
    exact putAll_set _ ds vs i d v (List.nodup_cons.1 hn).2 (by simpa using hl) h
theorem put_same (a : Act) (d : Tmp) : a.put (some d) (a.tmps.getD d undef) = a := by
  show ({ a with tmps := a.tmps.setIfInBounds d (a.tmps.getD d undef) } : Act) = a
  have : a.tmps.setIfInBounds d (a.tmps.getD d undef) = a.tmps := ?_
  · rw [this]
  apply Array.ext
  · simp
  · intro i h1 h2
    rw [Array.getElem_setIfInBounds (by simpa using h2)]
    split
    · rename_i e; subst e; simp [show d < a.tmps.size by simpa using h2]
    · rfl
theorem putAll_same (a : Act) : ∀ (ds : List Tmp), putAll a (ds.zip (ds.map fun d => a.tmps.getD d undef)) = a
  | [] => rfl
  | d :: ds => by
    show putAll (a.put (some d) (a.tmps.getD d undef)) _ = a
    rw [put_same]; exact putAll_same a ds

variable {P : Program} {Q : Exit → Act → World → Prop}

def Gives (P : Program) (o : Oper) (a : Act) (w : World) (Ψ : Value → World → Prop) : Prop :=
  ∀ (K : Act → World → Prop) (Q : Exit → Act → World → Prop), (∀ v w', Ψ v w' → K (a.put o.dst v) w') → o.wp P a w K Q

theorem gives_value {o : Oper} {a : Act} {w w' : World} {v : Value} {Ψ : Value → World → Prop} (hr : (execOp a.eval o).run P w = .ok (.value v) w') (h : Ψ v w') : Gives P o a w Ψ := fun K Q hK => by
  unfold Oper.wp; rw [hr]; exact hK v w' h
theorem gives_call {o : Oper} {a : Act} {w : World} {f : FuncId} {args : Array Value} {Ψ : Value → World → Prop} (hr : (execOp a.eval o).run P w = .ok (.enter f args) w)
    (h : Calls P f args w fun e w' => ∃ v, e = .returned v ∧ Ψ v w') : Gives P o a w Ψ := fun K Q hK => by
  unfold Oper.wp; rw [hr]
  exact h.mono fun e w' ⟨v, he, hv⟩ => by subst he; exact hK v w' hv

def dstsOf (l : List Oper) (n : Nat) : List Tmp := (l.take n).map fun o => o.dst.getD 0
def fullL (l : List Oper) (n : Nat) : Array Bool := ((List.range l.length).map fun i => decide (i < n)).toArray
def stableB (l : List Oper) (n : Nat) : Bool :=
  decide (n < l.length) && Region.sinkB .any l.toArray n && Region.chainB .any l.toArray n && Region.seqB .any l.toArray (l.length - n) n (fullL l n) &&
  (l.take n).all (fun o => o.dst.isSome && o.guard.isNone) && decide (dstsOf l n).Nodup && (List.range n).all (fun i => match l[i]? with | some o => o.after.all (fun e => decide (e.on < i)) | none => false)

theorem count_set_lt {l : List Bool} {i : Nat} (h : l[i]? = some false) : (l.set i true).count false + 1 = l.count false := by
  induction l generalizing i with
  | nil => simp at h
  | cons b l ih =>
    cases i with
    | zero => simp only [List.getElem?_cons_zero, Option.some.injEq] at h; subst h; simp
    | succ i =>
      simp only [List.getElem?_cons_succ] at h
      have := ih h
      cases b <;> simp [List.set_cons_succ] <;> omega

set_option maxHeartbeats 400000 in
theorem wp_region_stable {id : Nat} {l : List Oper} {a0 : Act} {w0 : World} (n : Nat) (hm : P.follows .mixedOrders = true) (hB : stableB l n = true)
    (R : World → Prop) (E : World → World → Prop) (Φ : Nat → Value → World → Prop) (hR : ∀ w w', R w → E w w' → R w') (hΦ : ∀ i v w w', Φ i v w → E w w' → Φ i v w')
    (h0 : R { w0 with drawn := w0.drawn + 1 })
    (hstep : ∀ (i : Nat) (o : Oper) (vs : List Value) (w : World), i < n → l[i]? = some o → vs.length = n → R w → (∀ e ∈ o.after, Region.binds .any e = true → ∀ v, vs[e.on]? = some v → Φ e.on v w) →
      Gives P o (putAll a0 ((dstsOf l n).zip vs)) w fun v w' => E w w' ∧ Φ i v w')
    (htail : ∀ (vs : List Value) (w : World), vs.length = n → R w → (∀ i v, vs[i]? = some v → Φ i v w) → wpList P l.toArray Q (l.drop n) (putAll a0 ((dstsOf l n).zip vs)) w) :
    (Code.region id l.toArray true).wp P Q a0 w0 := by
  simp only [stableB, Bool.and_eq_true, decide_eq_true_eq, List.all_eq_true] at hB
  obtain ⟨⟨⟨⟨⟨⟨hn, hs⟩, hc⟩, hseq⟩, hdst⟩, hnd⟩, hback⟩ := hB
  have hdl : (dstsOf l n).length = n := by simp [dstsOf]; omega
  refine wp_region_any hm ?_
  -- the state: which operations have been carried out, what the temporaries hold
  have main : ∀ (f : Nat) (listed : Array Bool) (vs : List Value) (w : World), HeadInv .any l.toArray n listed → vs.length = n → R w →
      (∀ i v, i < n → listed.getD i false = true → vs[i]? = some v → Φ i v w) → (listed.toList.take n).count false = f →
      wpAny P .any l.toArray Q (f + (l.length - n)) listed (putAll a0 ((dstsOf l n).zip vs)) w := by
    intro f
    induction f with
    | zero =>
      intro listed vs w inv hv hw hphi hcnt
      have hall : ∀ i, i < n → listed.getD i false = true := by
        intro i hi
        have hsz : i < listed.size := by rw [inv.size]; simp; omega
        have hmem : listed.toList[i]? = some listed[i] := by simp [hsz]
        have hne : listed[i] ≠ false := by
          intro e
          have hm2 : false ∈ listed.toList.take n := by
            rw [List.mem_take_iff_getElem]
            exact ⟨i, by simp; omega, by simpa using e⟩
          have := List.count_pos_iff.2 hm2
          omega
        simp [hsz]; simpa using hne
      have hfull : listed = fullL l n := by
        apply Array.ext
        · rw [inv.size]; simp [fullL]
        · intro i h1 h2
          have hil : i < l.length := by rw [inv.size] at h1; simpa using h1
          simp only [fullL, List.getElem_toArray, List.getElem_map, List.getElem_range]
          by_cases hi : i < n
          · have := hall i hi; simp [h1] at this; simp [this, hi]
          · have := inv.tail i (by omega) (by simpa using hil); simp [h1] at this; simp [this, hi]
      subst hfull
      have hw' := htail vs w hv hw (fun i v hi => hphi i v (by have := (List.getElem?_eq_some_iff.1 hi).1; omega) (hall i (by have := (List.getElem?_eq_some_iff.1 hi).1; omega)) hi)
      have := wpAny_of_seq (md := .any) (Q' := Q) (l.drop n) n (fullL l n) _ w (fun j => by simp [List.getElem?_drop]) (by rw [List.length_drop]; exact hseq) hw'
      rw [List.length_drop] at this
      simpa using this
    | succ f ih =>
      intro listed vs w inv hv hw hphi hcnt
      have hun : ∃ i, i < n ∧ listed.getD i true = false := by
        have : 0 < (listed.toList.take n).count false := by omega
        have hm2 := List.count_pos_iff.1 this
        rw [List.mem_take_iff_getElem] at hm2
        obtain ⟨i, hi, hv2⟩ := hm2
        refine ⟨i, by simp at hi; omega, ?_⟩
        have hsz : i < listed.size := by simp at hi; omega
        rw [Array.getD_eq_getD_getElem?, Array.getElem?_eq_getElem hsz]; simpa using hv2
      rw [show f + 1 + (l.length - n) = (f + (l.length - n)) + 1 by omega]
      obtain ⟨i0, hi0, hu0⟩ := hun
      have hready_lt : ∀ i ∈ Region.ready .any l.toArray listed, i < n := by
        intro i hi
        rcases Nat.lt_or_ge i n with h | h
        · exact h
        · exact absurd hi (tail_waits hs hc (by simpa using hn) inv _ i0 rfl hi0 hu0 i h)
      have hne : Region.ready .any l.toArray listed ≠ [] := by
        -- the first operation that is not yet carried out and whose own conditions are all met: by the least such index
        intro hnil
        obtain ⟨m, hm1, hm2⟩ : ∃ m, (m < n ∧ listed.getD m true = false) ∧ ∀ k, k < m → ¬ (k < n ∧ listed.getD k true = false) := by
          have : ∀ m, (m < n ∧ listed.getD m true = false) → ∃ m, (m < n ∧ listed.getD m true = false) ∧ ∀ k, k < m → ¬ (k < n ∧ listed.getD k true = false) := by
            intro m
            induction m using Nat.strongRecOn with
            | _ m ihm =>
              intro h
              by_cases hex : ∃ k, k < m ∧ (k < n ∧ listed.getD k true = false)
              · obtain ⟨k, hk, hk2⟩ := hex; exact ihm k hk hk2
              · exact ⟨m, h, fun k hk hk2 => hex ⟨k, hk, hk2⟩⟩
          exact this i0 ⟨hi0, hu0⟩
        have hml : m < l.length := by omega
        have hmo : l[m]? = some l[m] := List.getElem?_eq_getElem hml
        have hb1 := hback m (List.mem_range.2 hm1.1)
        rw [hmo] at hb1
        simp only at hb1
        have hmr : m ∈ Region.ready .any l.toArray listed := by
          refine mem_ready.2 ⟨hm1.2, l[m], by simp, fun e he _ => ?_⟩
          have hlt : e.on < m := by
            have := (Array.all_eq_true_iff_forall_mem.1 hb1) e he
            simpa using this
          have hnot := hm2 e.on hlt
          cases hx : listed.getD e.on true with
          | true =>
            have hsz : e.on < listed.size := by rw [inv.size]; simp; omega
            simp [hsz] at hx ⊢; exact hx
          | false => exact absurd ⟨by omega, hx⟩ hnot
        rw [hnil] at hmr; cases hmr
      refine ⟨fun h => absurd h hne, fun i hi => ?_⟩
      have hin := hready_lt i hi
      obtain ⟨hlf, o, ho, hdeps⟩ := mem_ready.1 hi
      have ho' : l[i]? = some o := by simpa using ho
      have hmem : o ∈ l.take n := List.mem_take_iff_getElem.2 ⟨i, (by have := (List.getElem?_eq_some_iff.1 ho').1; omega), (List.getElem?_eq_some_iff.1 ho').2⟩
      have hdo := hdst o hmem
      obtain ⟨d, hd⟩ := Option.isSome_iff_exists.1 hdo.1
      have hg : o.guard = none := by simpa using hdo.2
      have hdi : (dstsOf l n)[i]? = some d := by
        simp [dstsOf, hin, ho', hd]
      have hgive := hstep i o vs w hin ho' hv hw (fun e he hb v hve => by
        have hle := hdeps e he hb
        have hen : e.on < n := by have := (List.getElem?_eq_some_iff.1 hve).1; omega
        exact hphi e.on v hen hle hve)
      unfold wpOp
      simp only [ho, Region.wanted, hg, if_true]
      refine .inl (hgive _ _ fun v w' hvw => ?_)
      rw [hd, ← putAll_set a0 (dstsOf l n) vs i d v hnd (by rw [hdl, hv]) hdi]
      have hsz : i < listed.size := by rw [inv.size]; simp; omega
      have hli : listed.toList[i]? = some false := by
        simp [hsz] at hlf ⊢; exact hlf
      refine ih (listed.setIfInBounds i true) (vs.set i v) w' (inv.set hi hin) (by simpa using hv) (hR w w' hw hvw.1) ?_ ?_
      · intro j u hj hlj huj
        by_cases e : j = i
        · subst e
          have hjl : j < vs.length := by omega
          rw [List.getElem?_set_self hjl] at huj
          cases huj; exact hvw.2
        · rw [List.getElem?_set_ne (fun h => e h.symm)] at huj
          rw [getD_set_ne false (fun h => e h.symm)] at hlj
          exact hΦ j u w w' (hphi j u hj hlj huj) hvw.1
      · have : (listed.setIfInBounds i true).toList.take n = (listed.toList.take n).set i true := by
          rw [Array.toList_setIfInBounds, List.take_set]
        rw [this]
        have h2 := count_set_lt (l := listed.toList.take n) (i := i) (by rw [List.getElem?_take, if_pos hin]; exact hli)
        omega
  have inv0 : HeadInv .any l.toArray n (Array.replicate l.toArray.size false) :=
    ⟨by simp, fun j oj _ hl => (by rw [getD_replicate_false] at hl; cases hl), fun t _ ht => getD_in (by simpa using ht) (getD_replicate_false _ _)⟩
  have := main n (Array.replicate l.toArray.size false) ((dstsOf l n).map fun d => a0.tmps.getD d undef) _ inv0 (by simpa using hdl) h0
    (fun i v _ hl _ => by rw [getD_replicate_false] at hl; cases hl) (by simp; omega)
  rw [putAll_same, show n + (l.length - n) = l.toArray.size by simp; omega] at this
  exact this
theorem wp_region_stableD {id : Nat} {l : List Oper} {a0 : Act} {w0 : World} (n : Nat) (ds : List Tmp) (hm : P.follows .mixedOrders = true) (hB : stableB l n = true) (hds : dstsOf l n = ds)
    (R : World → Prop) (E : World → World → Prop) (Φ : Nat → Value → World → Prop) (hR : ∀ w w', R w → E w w' → R w') (hΦ : ∀ i v w w', Φ i v w → E w w' → Φ i v w')
    (h0 : R w0.drew)
    (hstep : ∀ (i : Nat) (o : Oper) (vs : List Value) (w : World), i < n → l[i]? = some o → vs.length = n → R w → (∀ e ∈ o.after, Region.binds .any e = true → ∀ v, vs[e.on]? = some v → Φ e.on v w) →
      Gives P o (putAll a0 (ds.zip vs)) w fun v w' => E w w' ∧ Φ i v w')
    (htail : ∀ (vs : List Value) (w : World), vs.length = n → R w → (∀ i v, vs[i]? = some v → Φ i v w) → wpList P l.toArray Q (l.drop n) (putAll a0 (ds.zip vs)) w) :
    (Code.region id l.toArray true).wp P Q a0 w0 := by
  subst hds
  exact wp_region_stable n hm hB R E Φ hR hΦ h0 hstep htail
end Go.Proofs.YtddlohbhchjjhaaGreatDoor

namespace Go.Proofs.YtddlohbhchjjhaaGreatDoor
open Go.RowKit
variable {P : Program} {Q : Exit → Act → World → Prop}

def GivesG (P : Program) (ops : Array Oper) (o : Oper) (a : Act) (w : World) (Ψ : Value → World → Prop) : Prop :=
  (Region.wanted o (yielded ops a.tmps) = true ∧ Gives P o a w Ψ) ∨ (Region.wanted o (yielded ops a.tmps) = false ∧ Ψ undef w)
def stableGB (l : List Oper) (n : Nat) : Bool :=
  decide (n < l.length) && Region.sinkB .any l.toArray n && Region.chainB .any l.toArray n && Region.seqB .any l.toArray (l.length - n) n (fullL l n) &&
  (l.take n).all (fun o => o.dst.isSome) && decide (dstsOf l n).Nodup && (List.range n).all (fun i => match l[i]? with | some o => o.after.all (fun e => decide (e.on < i)) | none => false)

set_option maxHeartbeats 400000 in
theorem wp_region_stableG {id : Nat} {l : List Oper} {a0 : Act} {w0 : World} (n : Nat) (hm : P.follows .mixedOrders = true) (hB : stableGB l n = true)
    (R : World → Prop) (E : World → World → Prop) (Φ : Nat → Value → World → Prop) (hR : ∀ w w', R w → E w w' → R w') (hΦ : ∀ i v w w', Φ i v w → E w w' → Φ i v w')
    (h0 : R { w0 with drawn := w0.drawn + 1 })
    (hstep : ∀ (i : Nat) (o : Oper) (vs : List Value) (w : World), i < n → l[i]? = some o → vs.length = n → R w → (∀ e ∈ o.after, Region.binds .any e = true → ∀ v, vs[e.on]? = some v → Φ e.on v w) →
      GivesG P l.toArray o (putAll a0 ((dstsOf l n).zip vs)) w fun v w' => E w w' ∧ Φ i v w')
    (htail : ∀ (vs : List Value) (w : World), vs.length = n → R w → (∀ i v, vs[i]? = some v → Φ i v w) → wpList P l.toArray Q (l.drop n) (putAll a0 ((dstsOf l n).zip vs)) w) :
    (Code.region id l.toArray true).wp P Q a0 w0 := by
  simp only [stableGB, Bool.and_eq_true, decide_eq_true_eq, List.all_eq_true] at hB
  obtain ⟨⟨⟨⟨⟨⟨hn, hs⟩, hc⟩, hseq⟩, hdst⟩, hnd⟩, hback⟩ := hB
  have hdl : (dstsOf l n).length = n := by simp [dstsOf]; omega
  refine wp_region_any hm ?_
  -- the state: which operations have been carried out, what the temporaries hold
  have main : ∀ (f : Nat) (listed : Array Bool) (vs : List Value) (w : World), HeadInv .any l.toArray n listed → vs.length = n → R w →
      (∀ i v, i < n → listed.getD i false = true → vs[i]? = some v → Φ i v w) → (listed.toList.take n).count false = f →
      wpAny P .any l.toArray Q (f + (l.length - n)) listed (putAll a0 ((dstsOf l n).zip vs)) w := by
    intro f
    induction f with
    | zero =>
      intro listed vs w inv hv hw hphi hcnt
      have hall : ∀ i, i < n → listed.getD i false = true := by
        intro i hi
        have hsz : i < listed.size := by rw [inv.size]; simp; omega
        have hmem : listed.toList[i]? = some listed[i] := by simp [hsz]
        have hne : listed[i] ≠ false := by
          intro e
          have hm2 : false ∈ listed.toList.take n := by
            rw [List.mem_take_iff_getElem]
            exact ⟨i, by simp; omega, by simpa using e⟩
          have := List.count_pos_iff.2 hm2
          omega
        simp [hsz]; simpa using hne
      have hfull : listed = fullL l n := by
        apply Array.ext
        · rw [inv.size]; simp [fullL]
        · intro i h1 h2
          have hil : i < l.length := by rw [inv.size] at h1; simpa using h1
          simp only [fullL, List.getElem_toArray, List.getElem_map, List.getElem_range]
          by_cases hi : i < n
          · have := hall i hi; simp [h1] at this; simp [this, hi]
          · have := inv.tail i (by omega) (by simpa using hil); simp [h1] at this; simp [this, hi]
      subst hfull
      have hw' := htail vs w hv hw (fun i v hi => hphi i v (by have := (List.getElem?_eq_some_iff.1 hi).1; omega) (hall i (by have := (List.getElem?_eq_some_iff.1 hi).1; omega)) hi)
      have := wpAny_of_seq (md := .any) (Q' := Q) (l.drop n) n (fullL l n) _ w (fun j => by simp [List.getElem?_drop]) (by rw [List.length_drop]; exact hseq) hw'
      rw [List.length_drop] at this
      simpa using this
    | succ f ih =>
      intro listed vs w inv hv hw hphi hcnt
      have hun : ∃ i, i < n ∧ listed.getD i true = false := by
        have : 0 < (listed.toList.take n).count false := by omega
        have hm2 := List.count_pos_iff.1 this
        rw [List.mem_take_iff_getElem] at hm2
        obtain ⟨i, hi, hv2⟩ := hm2
        refine ⟨i, by simp at hi; omega, ?_⟩
        have hsz : i < listed.size := by simp at hi; omega
        rw [Array.getD_eq_getD_getElem?, Array.getElem?_eq_getElem hsz]; simpa using hv2
      rw [show f + 1 + (l.length - n) = (f + (l.length - n)) + 1 by omega]
      obtain ⟨i0, hi0, hu0⟩ := hun
      have hready_lt : ∀ i ∈ Region.ready .any l.toArray listed, i < n := by
        intro i hi
        rcases Nat.lt_or_ge i n with h | h
        · exact h
        · exact absurd hi (tail_waits hs hc (by simpa using hn) inv _ i0 rfl hi0 hu0 i h)
      have hne : Region.ready .any l.toArray listed ≠ [] := by
        -- the first operation that is not yet carried out and whose own conditions are all met: by the least such index
        intro hnil
        obtain ⟨m, hm1, hm2⟩ : ∃ m, (m < n ∧ listed.getD m true = false) ∧ ∀ k, k < m → ¬ (k < n ∧ listed.getD k true = false) := by
          have : ∀ m, (m < n ∧ listed.getD m true = false) → ∃ m, (m < n ∧ listed.getD m true = false) ∧ ∀ k, k < m → ¬ (k < n ∧ listed.getD k true = false) := by
            intro m
            induction m using Nat.strongRecOn with
            | _ m ihm =>
              intro h
              by_cases hex : ∃ k, k < m ∧ (k < n ∧ listed.getD k true = false)
              · obtain ⟨k, hk, hk2⟩ := hex; exact ihm k hk hk2
              · exact ⟨m, h, fun k hk hk2 => hex ⟨k, hk, hk2⟩⟩
          exact this i0 ⟨hi0, hu0⟩
        have hml : m < l.length := by omega
        have hmo : l[m]? = some l[m] := List.getElem?_eq_getElem hml
        have hb1 := hback m (List.mem_range.2 hm1.1)
        rw [hmo] at hb1
        simp only at hb1
        have hmr : m ∈ Region.ready .any l.toArray listed := by
          refine mem_ready.2 ⟨hm1.2, l[m], by simp, fun e he _ => ?_⟩
          have hlt : e.on < m := by
            have := (Array.all_eq_true_iff_forall_mem.1 hb1) e he
            simpa using this
          have hnot := hm2 e.on hlt
          cases hx : listed.getD e.on true with
          | true =>
            have hsz : e.on < listed.size := by rw [inv.size]; simp; omega
            simp [hsz] at hx ⊢; exact hx
          | false => exact absurd ⟨by omega, hx⟩ hnot
        rw [hnil] at hmr; cases hmr
      refine ⟨fun h => absurd h hne, fun i hi => ?_⟩
      have hin := hready_lt i hi
      obtain ⟨hlf, o, ho, hdeps⟩ := mem_ready.1 hi
      have ho' : l[i]? = some o := by simpa using ho
      have hmem : o ∈ l.take n := List.mem_take_iff_getElem.2 ⟨i, (by have := (List.getElem?_eq_some_iff.1 ho').1; omega), (List.getElem?_eq_some_iff.1 ho').2⟩
      have hdo := hdst o hmem
      obtain ⟨d, hd⟩ := Option.isSome_iff_exists.1 hdo
      have hdi : (dstsOf l n)[i]? = some d := by
        simp [dstsOf, hin, ho', hd]
      have hgive := hstep i o vs w hin ho' hv hw (fun e he hb v hve => by
        have hle := hdeps e he hb
        have hen : e.on < n := by have := (List.getElem?_eq_some_iff.1 hve).1; omega
        exact hphi e.on v hen hle hve)
      have hgo : ∀ v w', (E w w' ∧ Φ i v w') → wpAny P .any l.toArray Q (f + (l.length - n)) (listed.setIfInBounds i true) ((putAll a0 ((dstsOf l n).zip vs)).put o.dst v) w' := ?hgo
      case hgo =>
        intro v w' hvw
        rw [hd, ← putAll_set a0 (dstsOf l n) vs i d v hnd (by rw [hdl, hv]) hdi]
        have hsz : i < listed.size := by rw [inv.size]; simp; omega
        have hli : listed.toList[i]? = some false := by
          simp [hsz] at hlf ⊢; exact hlf
        refine ih (listed.setIfInBounds i true) (vs.set i v) w' (inv.set hi hin) (by simpa using hv) (hR w w' hw hvw.1) ?_ ?_
        · intro j u hj hlj huj
          by_cases e : j = i
          · subst e
            have hjl : j < vs.length := by omega
            rw [List.getElem?_set_self hjl] at huj
            cases huj; exact hvw.2
          · rw [List.getElem?_set_ne (fun h => e h.symm)] at huj
            rw [getD_set_ne false (fun h => e h.symm)] at hlj
            exact hΦ j u w w' (hphi j u hj hlj huj) hvw.1
        · have : (listed.setIfInBounds i true).toList.take n = (listed.toList.take n).set i true := by
            rw [Array.toList_setIfInBounds, List.take_set]
          rw [this]
          have h2 := count_set_lt (l := listed.toList.take n) (i := i) (by rw [List.getElem?_take, if_pos hin]; exact hli)
          omega
      unfold wpOp
      simp only [ho]
      rcases hgive with ⟨hw1, hw2⟩ | ⟨hw1, hw2⟩
      · rw [if_pos hw1]
        exact .inl (hw2 _ _ hgo)
      · rw [if_neg (by rw [hw1]; simp)]
        exact hgo undef w hw2
  have inv0 : HeadInv .any l.toArray n (Array.replicate l.toArray.size false) :=
    ⟨by simp, fun j oj _ hl => (by rw [getD_replicate_false] at hl; cases hl), fun t _ ht => getD_in (by simpa using ht) (getD_replicate_false _ _)⟩
  have := main n (Array.replicate l.toArray.size false) ((dstsOf l n).map fun d => a0.tmps.getD d undef) _ inv0 (by simpa using hdl) h0
    (fun i v _ hl _ => by rw [getD_replicate_false] at hl; cases hl) (by simp; omega)
  rw [putAll_same, show n + (l.length - n) = l.toArray.size by simp; omega] at this
  exact this
theorem wp_region_stableGD {id : Nat} {l : List Oper} {a0 : Act} {w0 : World} (n : Nat) (ds : List Tmp) (hm : P.follows .mixedOrders = true) (hB : stableGB l n = true) (hds : dstsOf l n = ds)
    (R : World → Prop) (E : World → World → Prop) (Φ : Nat → Value → World → Prop) (hR : ∀ w w', R w → E w w' → R w') (hΦ : ∀ i v w w', Φ i v w → E w w' → Φ i v w')
    (h0 : R w0.drew)
    (hstep : ∀ (i : Nat) (o : Oper) (vs : List Value) (w : World), i < n → l[i]? = some o → vs.length = n → R w → (∀ e ∈ o.after, Region.binds .any e = true → ∀ v, vs[e.on]? = some v → Φ e.on v w) →
      GivesG P l.toArray o (putAll a0 (ds.zip vs)) w fun v w' => E w w' ∧ Φ i v w')
    (htail : ∀ (vs : List Value) (w : World), vs.length = n → R w → (∀ i v, vs[i]? = some v → Φ i v w) → wpList P l.toArray Q (l.drop n) (putAll a0 (ds.zip vs)) w) :
    (Code.region id l.toArray true).wp P Q a0 w0 := by
  subst hds
  exact wp_region_stableG n hm hB R E Φ hR hΦ h0 hstep htail
def vPhi (vals : List Value) (i : Nat) (v : Value) (_ : World) : Prop := ∀ u, vals[i]? = some u → v = u
theorem list19 {vs : List Value} (h : vs.length = 19) : ∃ v0 v1 v2 v3 v4 v5 v6 v7 v8 v9 v10 v11 v12 v13 v14 v15 v16 v17 v18, vs = [v0, v1, v2, v3, v4, v5, v6, v7, v8, v9, v10, v11, v12, v13, v14, v15, v16, v17, v18] := by
  match vs, h with
  | [v0, v1, v2, v3, v4, v5, v6, v7, v8, v9, v10, v11, v12, v13, v14, v15, v16, v17, v18], _ => exact ⟨_, _, _, _, _, _, _, _, _, _, _, _, _, _, _, _, _, _, _, rfl⟩
end Go.Proofs.YtddlohbhchjjhaaGreatDoor
