/-
  Lemmas: graph.reached's iterator, walked. graph.reached and graph.returns. graph.edges: the labels on which targets depend directly, and those that depend on them. graph.edges, walked. graph.sortedKeys. What graph.Cycle does, in plain Lean: numbers of steps, the best next label, and why it ends. No program in sight. graph.Cycle, walked.
-/
import Derived.Sort.LoopGhostIn
import Derived.Maps.OwnIn
import Derived.Test.YtddlohbhchjjhaaGreatDoorU3

namespace Go.Proofs.YtddlohbhchjjhaaGreatDoor
open Go.RowKit Go.Maps
attribute [local go_sem] Oper.semAt_some

/-- the met labels -/
def metG (pre : List (ByteArray × Nat)) : ByteArray → Option Value := fun s => if pre.any (fun x => decide (x.1 = s)) then some (.bool true) else none
theorem metG_any (pre : List (ByteArray × Nat)) (s : ByteArray) : pre.any (fun x => decide (x.1 = s)) = true ↔ s ∈ pre.map Prod.fst := by
  simp [List.any_eq_true, List.mem_map]
theorem metG_in {pre : List (ByteArray × Nat)} {s : ByteArray} (h : s ∈ pre.map Prod.fst) : metG pre s = some (.bool true) := by
  unfold metG; rw [if_pos ((metG_any pre s).2 h)]
theorem metG_out {pre : List (ByteArray × Nat)} {s : ByteArray} (h : s ∉ pre.map Prod.fst) : metG pre s = none := by
  unfold metG; rw [if_neg (fun e => h ((metG_any pre s).1 e))]
theorem metG_put {pre : List (ByteArray × Nat)} {s : ByteArray} (k : Nat) : metG (pre ++ [(s, k)]) = upd (metG pre) s (.bool true) := by
  funext t
  unfold metG upd
  by_cases e : t = s
  · subst e; simp
  · have h : ((pre ++ [(s, k)]).any fun x => decide (x.1 = t)) = pre.any fun x => decide (x.1 = t) := by
      rw [List.any_append]; simp [Ne.symm e]
    rw [h, if_neg e]
theorem str_ne {a b : ByteArray} (h : a ≠ b) : (a.toList == b.toList) = false := by
  rw [beq_eq_false_iff_ne]
  intro e
  rw [ByteArray.toList_eq, ByteArray.toList_eq] at e
  exact h (data_inj e)
theorem str_eq (a : ByteArray) : (a.toList == a.toList) = true := by simp
/-- the queue's row does not lie in block b -/
def NotIn (b : Nat) (A : Option Addr) (c : Nat) : Prop := c ≠ 0 → ∀ g off, A = some ⟨g, off, none⟩ → g ≠ b
theorem plC_get (x : ByteArray) (k : Int) (j : Nat) (u : Value) (w : World) (t : TypeId) (h : [Value.string x, .int .i64 k][j]? = some u) : (w.alloc (.cells #[.string x, .int .i64 k] t)).cell? ⟨w.heap.size, 0 + j, none⟩ = some u := by
  have hk : Bk (w.alloc (.cells #[.string x, .int .i64 k] t)) w.heap.size t #[.string x, .int .i64 k] := Bk.new w _ _
  rw [hk.cell]
  match j, h with
  | 0, h => simpa using h
  | 1, h => simpa using h
def plC (x : ByteArray × Nat) : List Value := [.string x.1, .int .i64 x.2]

theorem infoPl : (Tryz.prog.info? 137).map (fun i => (i.zero, i.size, i.bytes)) = some (some (.agg #[.string ⟨#[]⟩, .int .i64 0]), 2, 24) := by kernel_rfl
theorem Que.slice1 {P : Program} {w : World} {base size n c g off : Nat} {e t : TypeId} {xs : List Value} (i : TypeInfo) (ht : P.underlying t = some (.slice e)) (hi : P.info? e = some i) (hsz : i.size = size) (h : Que w base e size (some ⟨g, off, none⟩) (n + 1) c xs) :
    ∃ A1, (∀ w' : World, (Instr.sliceAt t (.slice (some ⟨g, off, none⟩) (n + 1) c) (some (.int .i64 1)) none none).run P w' = .ok (.slice A1 n (c - 1)) w') ∧ Que w base e size A1 n (c - 1) (xs.drop size) := by
  have hle := h.le
  refine ⟨if c = 1 then some ⟨g, off, none⟩ else some ⟨g, off + size, none⟩, fun w' => ?_, ?_⟩
  · by_cases e : c = 1
    · simp [Instr.sliceAt, Instr.slice, run_underlying ht, Instr.sliceBounds, Instr.sliceBound, asIntOf, sizeOf, typeInfo, hi, hsz, e]; omega
    · simp [Instr.sliceAt, Instr.slice, run_underlying ht, Instr.sliceBounds, Instr.sliceBound, asIntOf, sizeOf, typeInfo, hi, hsz, e, Addr.add_lit]; omega
  · by_cases e : c = 1
    · rw [if_pos e]
      have h0 := h.tail.1
      exact ⟨h0, .inl ⟨by omega, by omega⟩⟩
    · rw [if_neg e]; exact h.tail

set_option maxRecDepth 100000 in
set_option maxHeartbeats 8000000 in
theorem reached_st (n : Nat) (hn : 1 ≤ n) (hi bs bx bn N hz : Nat) (start : ByteArray) (gn : ByteArray → Option Value) (Ln : ByteArray → List ByteArray) (U : List ByteArray) (w : World)
    (h0 : NxR w Tryz.prog 9 81 hi bs bx bn N start gn Ln) (hhi : hi ≤ w.heap.size) (hbs : bs < w.heap.size) (hbx : bx < w.heap.size) (hwz : w.heap.size ≤ hz)
    (hU : ∀ x, ∀ y ∈ Ln x, y ∈ U) (hUl : U.length ≤ 1000) (hUs : ∀ y ∈ U, y.size ≤ maxLen) (hss : start.size ≤ maxLen) :
    SeqT Fence.wide n Tryz.prog 108 #[.pointer (some ⟨bs, 0, none⟩), .pointer (some ⟨bx, 0, none⟩)] (fun x : ByteArray × Nat => #[.string x.1, .int .i64 x.2])
      (KeepR hz 137 (fun j => j < hi ∨ j = bs ∨ j = bx)) (StepR hz 137) (Got Ln start) (fun xs => Got Ln start xs ∧ ∀ x, x ∈ xs.map Prod.fst ↔ Rch Ln start x) (Got Ln start) hz w := fun l J Jx W hW hWz hJ hY hJ0 => by
  subst hWz
  have HN : Hid (NxR W Tryz.prog 9 81 hi bs bx bn N start gn Ln) := h0.keep fun j hj => hW.block j (by omega)
  have HN1 := Lib.hid (HN.out.step (StepR.alloc (bm := W.heap.size) (e := 137) W (.map #[] 0)) (by omega) (by omega) (by omega) (Nat.le_refl _))
  have s0 := cell_of_one HN1.out.s
  have HJ := Lib.hid hJ; have HY := Lib.hid hY; have HJ0 := Lib.hid hJ0; have HUU := Lib.hid hU; have HUS := Lib.hid hUs
  clear hW h0 hJ hY hJ0 hU hUs
  have hmm := @run_makeMap Tryz.prog
  obtain ⟨i0, hi0, hz0, hz1, hz2⟩ := info_parts infoPl
  have Hi := Lib.hid hi0; have Hz0 := Lib.hid hz0; have Hz1 := Lib.hid hz1; have Hz2 := Lib.hid hz2
  clear hi0 hz0 hz1 hz2
  refine callsIn_of_wp Tryz.func108 rfl trivial ?_ rfl
  simp only [Tryz.ntmps108, List.size_toArray, List.length_cons, List.length_nil, Nat.reduceAdd, Nat.reduceSub, Array.replicate_succ, Array.replicate_zero, List.push_toArray, List.append_toArray, List.nil_append, List.cons_append]
  refine wpIn_scope_straight ?_
  gi_wp2
  refine wpIn_label ?_
  gi_wp2
  have HQ0 : Hid (Que ((W.alloc (.map #[] 0)).alloc (.cells #[.string start, .int .i64 0] 137)) (W.heap.size + 1) 137 2 (some ⟨W.heap.size + 1, 0, none⟩) 1 1 (flat plC [(start, 0)])) :=
    ⟨rfl, .inr ⟨W.heap.size + 1, 0, #[.string start, .int .i64 0], rfl, Nat.le_refl _, by have := World.alloc_heap_new (W.alloc (.map #[] 0)) (.cells #[.string start, .int .i64 0] 137); rwa [World.size_alloc] at this, Nat.le_refl _, by unfold maxLen; omega, rfl, rfl⟩⟩
  have HM0 : Hid (Rm ((W.alloc (.map #[] 0)).alloc (.cells #[.string start, .int .i64 0] 137)) Tryz.prog 9 W.heap.size 0 (metG [])) := (Rm.made W Tryz.prog 9).alloc _
  have HN2 := Lib.hid (HN1.out.step (StepR.alloc (bm := W.heap.size) (e := 137) (W.alloc (.map #[] 0)) (.cells #[.string start, .int .i64 0] 137)) (by omega) (by omega) (by omega) (by simp))
  have HJ2 := Lib.hid (HJ.out [] _ _ (HJ.out [] _ _ HJ0.out (StepR.alloc W (.map #[] 0))) (StepR.alloc _ (.cells #[.string start, .int .i64 0] 137)))
  gi_loopg [5] (2 * (U.length + 1) + 1) (fun m q wr => ∃ (pre todo : List (ByteArray × Nat)) (A : Option Addr) (nq c : Nat), m = 2 * (U.length + 1 - pre.length) + nq ∧ todo.length = nq ∧ q = .slice A nq c ∧ Hid (Que wr (W.heap.size + 1) 137 2 A nq c (flat plC todo)) ∧ Hid (Rm wr Tryz.prog 9 W.heap.size pre.length (metG pre)) ∧
    Hid (NxR wr Tryz.prog 9 81 hi bs bx bn N start gn Ln) ∧ Hid (Bfs Ln start pre todo) ∧ Hid (J pre wr) ∧ W.heap.size + 1 ≤ wr.heap.size ∧ 2 * (U.length + 1 - pre.length) + nq ≤ 2 * (U.length + 1) + 1)
  case atStart => exact ⟨[], [(start, 0)], _, 1, 1, rfl, rfl, rfl, HQ0.out, HM0.out, HN2.out, Bfs.start Ln start, HJ2.out, by simp, by simp⟩
  case round =>
    obtain ⟨pre, todo, A, nq, c, rfl, hnq, rfl, hQ, hM, hN, hB, hj, hwz1, hmost⟩ := hrel
    cases todo with
    | nil =>
      obtain rfl : nq = 0 := by simpa using hnq.symm
      have HG := Lib.hid hB.out.got
      have HE := Lib.hid hB.out.end_
      clear hB
      gi_wp2
      simp only [Exit.noGoto]
      go_end0
      exact ⟨⟨_, rfl⟩, .inl ⟨pre, ⟨HG.out, HE.out⟩, hj.out⟩⟩
    | cons p todo =>
      obtain ⟨lab, st⟩ := p
      have HGL := hB.out.got.len HUU.out
      have hst : st ≤ U.length := by
        rcases hB.out.que (lab, st) (by simp) with e | e
        · simp at e; omega
        · have := hB.out.few _ e; simp at this; omega
      have hq1 : nq = todo.length + 1 := by simpa using hnq.symm
      subst hq1
      obtain ⟨qb, qo, y, rfl, hqb, hy, hyc⟩ := hQ.out.sl.at_ (enc := plC) (fun _ => rfl) (by omega) (Nat.zero_lt_succ _)
      have hy' : y = (lab, st) := by simpa using hy.symm
      subst hy'
      have q0 := hyc 0 _ rfl; have q1 := hyc 1 _ rfl
      simp only [Nat.zero_mul, Nat.add_zero] at q0 q1
      obtain ⟨A1, hsl1, hQ1⟩ := hQ.out.slice1 i0 Tryz.underlying138 Hi.out Hz1.out
      have HQ1 : Hid (Que wr (W.heap.size + 1) 137 2 A1 todo.length (c - 1) (flat plC todo)) := hQ1
      clear hy hyc hnq hQ1
      have HNp := Lib.hid (hN.out.step (StepR.alloc (bm := W.heap.size) (e := 137) wr (.cells #[.string lab, .int .i64 st] 137)) (by omega) (by omega) (by omega) (by omega))
      have z0 := cell_of_one HNp.out.s
      have z1 := cell_of_one HNp.out.x
      have hkp : Bk (wr.alloc (.cells #[.string lab, .int .i64 st] 137)) wr.heap.size 137 #[.string lab, .int .i64 st] := Bk.new wr _ _
      have HQp : Hid (Que (wr.alloc (.cells #[.string lab, .int .i64 st] 137)) (W.heap.size + 1) 137 2 A1 todo.length (c - 1) (flat plC todo)) := HQ1.out.keep fun g cur hg => Below.heap_alloc _ _ _ (Array.getElem?_eq_some_iff.1 hg).1
      have HMp := Lib.hid (hM.out.alloc (.cells #[.string lab, .int .i64 st] 137))
      have HJp := Lib.hid (HJ.out pre _ _ hj.out (StepR.alloc wr (.cells #[.string lab, .int .i64 st] 137)))
      have p0 := hkp.cell 0; have p1 := hkp.cell 1
      simp at p0 p1
      have HQ1' := HQ1
      clear hQ hM hj HQ1 hN
      by_cases hpass : st ≠ 0 ∧ lab = start
      · obtain ⟨hp1, rfl⟩ := hpass
        have hpi : (0 : Int) < (st : Int) := by omega
        have HB1 := Lib.hid (hB.out.pass rfl hp1)
        clear hB
        gi_wp2
        gi_roundg (2 * (U.length + 1 - pre.length) + todo.length)
        case rel => exact ⟨pre, todo, A1, todo.length, c - 1, rfl, rfl, rfl, HQp.out, HMp.out, HNp.out, HB1.out, HJp.out, by simp; omega, by omega⟩
        case measure => omega
      · obtain ⟨An, cn, hgn, hSn, hcn, hcn'⟩ := HNp.out.rows lab
        have hls : lab.size ≤ maxLen := by
          rcases hB.out.que (lab, st) (by simp) with e | e
          · simp at e; rw [e.1]; exact hss
          · exact HUS.out lab ((hB.out.got.sound lab (List.mem_map_of_mem (f := Prod.fst) e)).mem HUU.out)
        have hlk := HNp.out.map.look Tryz.underlying9 Tryz.underlying81 (Tryz.zeroValue33 _) hls
        have hlk2 : (Instr.lookup 81 (.map (some bn)) (.string lab) false).run Tryz.prog (wr.alloc (.cells #[.string lab, .int .i64 st] 137)) = .ok (.slice An (Ln lab).length cn) (wr.alloc (.cells #[.string lab, .int .i64 st] 137)) := by rw [← hgn]; exact hlk
        have HGN := Lib.hid hgn
        have HBL := Lib.hid hB.out.look
        have HNI : Hid (NotIn wr.heap.size A1 (c - 1)) := fun h0 g off e => by
          obtain ⟨_, ⟨_, h1⟩ | ⟨g', off', cur, h1, h2, h3, _⟩⟩ := HQ1'.out
          · exact absurd h1 h0
          · rw [e] at h1; cases h1
            have := (Array.getElem?_eq_some_iff.1 h3).1; omega
        have hways : (st = 0) ∨ (st ≠ 0 ∧ lab ≠ start) := by
          by_cases e : st = 0
          · exact .inl e
          · exact .inr ⟨e, fun e2 => hpass ⟨e, e2⟩⟩
        have HKP := Lib.hid hkp
        clear hlk hgn hSn hB hpass HQ1' hkp
        have hUle : U.length + 1 - pre.length = U.length - pre.length + 1 := by omega
        have hLl : (Ln lab).length ≤ 9223372036854775807 := by have := Nat.le_trans hcn hcn'; unfold maxLen at this; omega
        rcases hways with hw0 | ⟨hw0, hw1⟩
        case' inl =>
          have hpi : ¬ (0 : Int) < (st : Int) := by omega
          clear hw0
          gi_wp2
        case' inr =>
          have hpi : (0 : Int) < (st : Int) := by omega
          have hse := str_ne hw1
          gi_wp2
        all_goals
          clear hlk2 q0 q1 z0 z1 hsl1
          gi_loopg [5, 35] ((Ln lab).length) (fun m q i wi => ∃ (pre2 todo2 : List (ByteArray × Nat)) (A2 : Option Addr) (nq c2 j : Nat), m = (Ln lab).length - j ∧ j ≤ (Ln lab).length ∧ i = .int .i64 j ∧ todo2.length = nq ∧ q = .slice A2 nq c2 ∧ Hid (Que wi (W.heap.size + 1) 137 2 A2 nq c2 (flat plC todo2)) ∧ Hid (NotIn wr.heap.size A2 c2) ∧ Hid (Rm wi Tryz.prog 9 W.heap.size pre2.length (metG pre2)) ∧
            Hid (NxR wi Tryz.prog 9 81 hi bs bx bn N start gn Ln) ∧ Hid (BfsL Ln start pre2 todo2 (lab, st) ((Ln lab).drop j)) ∧ Hid (J pre2 wi) ∧ Hid (Bk wi wr.heap.size 137 #[.string lab, .int .i64 st]) ∧
            2 * (U.length + 1 - pre2.length) + todo2.length ≤ 2 * (U.length + 1 - pre.length) + todo.length ∧ W.heap.size + 1 ≤ wi.heap.size ∧ wr.heap.size < wi.heap.size)
          case atStart => exact ⟨pre, todo, A1, todo.length, c - 1, 0, rfl, Nat.zero_le _, rfl, rfl, rfl, HQp.out, HNI.out, HMp.out, HNp.out, HBL.out, HJp.out, HKP.out, Nat.le_refl _, by simp; omega, by simp⟩
          case round =>
            obtain ⟨pre2, todo2, A2, nq, c2, j, rfl, hj, rfl, hnq, rfl, hQ, hNI, hM, hN, hB, hJ2, hK, hcnt, hz2, hz3⟩ := hrel
            subst hnq
            have HGL2 := hB.out.got.len HUU.out
            by_cases hjn : j < (Ln lab).length
            · obtain ⟨An2, cn2, hgn2, hSn2, _⟩ := hN.out.rows lab
              rw [HGN.out] at hgn2
              simp only [Value.slice.injEq, true_and] at hgn2
              obtain ⟨rfl, rfl⟩ := hgn2
              obtain ⟨rb, ro, x, rfl, hrb, hx, y0⟩ := hSn2.str_at hjn
              have hxU : x ∈ U := HUU.out lab x (List.mem_of_getElem? hx)
              have hxs := HUS.out x hxU
              have hdrop : (Ln lab).drop j = x :: (Ln lab).drop (j + 1) := by
                rw [List.drop_eq_getElem_cons hjn]; congr 1; exact (List.getElem?_eq_some_iff.1 hx).2
              have hB2 := hB.out
              rw [hdrop] at hB2
              have hlz : (j : Int) < ((Ln lab).length : Int) := by omega
              have hlk := hM.out.look Tryz.underlying9 Tryz.underlying66 (Tryz.zeroValue4 _) hxs
              clear hSn2 hx hdrop hB
              by_cases hmet : x ∈ pre2.map Prod.fst
              · rw [metG_in hmet] at hlk
                simp only [Option.getD_some] at hlk
                have HB3 := Lib.hid (hB2.skip hmet)
                clear hB2 hmet
                gi_wp2
                gi_roundg ((Ln lab).length - (j + 1))
                case rel => exact ⟨pre2, todo2, A2, todo2.length, c2, j + 1, rfl, hjn, by go_num, rfl, rfl, hQ.out, hNI.out, hM.out, hN.out, HB3.out, hJ2.out, hK.out, hcnt, hz2, hz3⟩
                case measure => omega
              · rw [metG_out hmet] at hlk
                simp only [Option.getD_none] at hlk
                have HB3 := Lib.hid (hB2.take hmet)
                have HB3g := HB3.out.got.len HUU.out
                clear hB2 hmet
                have p1 := hK.out.cell 1
                simp only [List.getElem?_toArray, List.getElem?_cons_succ, List.getElem?_cons_zero] at p1
                gi_wp2_with (gi_at_mapUpdate; refine halt_ ?_)
                refine unhalt ?_
                refine wpListIn_put_rm rfl _ _ _ 66 rfl 9 4 Tryz.underlying9 Tryz.underlying66 W.heap.size pre2.length (metG pre2) rfl hM.out (by unfold maxLen; omega) x hxs (.bool true) rfl rfl ?_
                intro w2 hM2 hg2
                rw [← metG_put (st + 1)] at hM2
                have hS2 : StepR W.heap.size 137 wr w2 := StepR.of_grown hg2 (fun g e => by cases e; exact .inl rfl)
                have HM2 := Lib.hid hM2
                have HQ2 : Hid (Que w2 (W.heap.size + 1) 137 2 A2 todo2.length c2 (flat plC todo2)) := hQ.out.keep fun g cur hg => hg2.block g (Array.getElem?_eq_some_iff.1 hg).1 (fun e => by
                  cases e
                  obtain ⟨_, ⟨_, _, h1, _⟩, _⟩ := hM.out
                  rw [hg] at h1; cases h1)
                have HK2 : Hid (Bk w2 _ 137 #[.string lab, .int .i64 st]) := hK.out.grown hg2 (by simp; omega)
                have HN2 := Lib.hid (hN.out.step hS2 (by omega) (by omega) (by omega) (by omega))
                have HJ2' := Lib.hid (HJ.out pre2 _ _ hJ2.out hS2)
                have hz4 := hg2.size
                clear hM2 hg2 hS2 hM hQ hK hN hJ2 y0 hlk p1
                have p1 := HK2.out.cell 1
                simp only [List.getElem?_toArray, List.getElem?_cons_succ, List.getElem?_cons_zero] at p1
                obtain ⟨fn, tmps, assign, body, hy, hR⟩ := HY.out pre2 (x, st + 1) w2 HB3.out.got HJ2'.out
                simp only [Int.natCast_add, Int.cast_ofNat_Int] at hy
                have HR := Lib.hid hR
                clear hR
                gi_wp2
                refine HR.out.mono ?_
                rintro e W3 (⟨rfl, hJ3, hK3⟩ | ⟨rfl, hJx3⟩)
                · have HJ3 := Lib.hid hJ3
                  have HQ3 : Hid (Que W3 (W.heap.size + 1) 137 2 A2 todo2.length c2 (flat plC todo2)) := HQ2.out.keep fun g cur hg => hK3.block g (Array.getElem?_eq_some_iff.1 hg).1 (.inr (.inl (by rw [hg]; rfl)))
                  have HM3 := Lib.hid (HM2.out.block (hK3.block W.heap.size (by omega) (.inl rfl)))
                  have HK3 : Hid (Bk W3 _ 137 #[.string lab, .int .i64 st]) := (hK3.block _ HK2.out.lt (.inr (.inl (by rw [show _ = _ from HK2.out]; rfl)))).trans HK2.out
                  have HN3 := Lib.hid (HN2.out.round hK3 (by omega) (by omega) (by omega) (by omega))
                  have hz5 := hK3.size
                  clear hJ3 hK3 HR HJ2' HQ2 HM2 HK2 HN2 hy p1
                  have p1 := HK3.out.cell 1
                  simp only [List.getElem?_toArray, List.getElem?_cons_succ, List.getElem?_cons_zero] at p1
                  gi_wp2_with (gi_at_builtin; refine halt_ ?_)
                  refine unhalt ?_
                  refine wpListIn_append_que (base := W.heap.size + 1) (size := 2) rfl (.tmp 51) (.tmp 57) 138 rfl 137 i0 _ 24 Tryz.underlying138 Hi.out Hz0.out Hz1.out Hz2.out rfl (by decide) A2 todo2.length c2 (flat plC todo2) rfl ?own (W3.heap.size + 1) (some ⟨W3.heap.size, 0, none⟩) 1 1 (flat plC [(x, st + 1)]) ?hx ?hsl (by simp [flat, plC, Value.oneCell']) (by decide) ?l1 ?l2 ?l3 ?_
                  case own => exact HQ3.out.keep fun g cur hg => Below.heap_alloc _ _ _ (Array.getElem?_eq_some_iff.1 hg).1
                  case hx => rfl
                  case hsl => exact ⟨rfl, fun _ => ⟨_, 0, rfl, Nat.lt_succ_self _, fun j u hu => plC_get x _ j u W3 _ (by simpa [flat, plC] using hu)⟩⟩
                  case l1 => unfold maxLen; omega
                  case l2 => omega
                  case l3 => simp; omega
                  intro A4 c4 w4 row hQ4 hg4 hrow hA4
                  have hS4 : StepR W.heap.size 137 (W3.alloc (.cells #[.string x, .int .i64 (st + 1)] 137)) w4 := StepR.of_grown hg4 (fun g e => by
                    obtain ⟨h1, ⟨cur, h2⟩, _⟩ := hrow g e
                    exact .inr ⟨by omega, by rw [h2]; rfl⟩)
                  have HS4 := Lib.hid hS4
                  have hz6 := hg4.size
                  rw [World.size_alloc] at hz6
                  have hnb : ∀ g, row = some g → g ≠ _ := fun g e => by
                    obtain ⟨_, _, h3, off, h4⟩ := hrow g e
                    exact hNI.out h3 g off h4
                  have HK4 := Lib.hid ((HK3.out.alloc (.cells #[.string x, .int .i64 (st + 1)] 137)).grown hg4 (fun e => hnb _ e.symm rfl))
                  have HM4 := Lib.hid ((HM3.out.alloc (.cells #[.string x, .int .i64 (st + 1)] 137)).kept hg4 (fun e => by have := (hrow _ e.symm).1; omega))
                  have HN4 := Lib.hid ((HN3.out.step (StepR.alloc (bm := W.heap.size) (e := 137) W3 (.cells #[.string x, .int .i64 (st + 1)] 137)) (by omega) (by omega) (by omega) (by omega)).step HS4.out (by omega) (by omega) (by omega) (by simp; omega))
                  have HJ4 := Lib.hid (HJ.out _ _ _ (HJ.out _ _ _ HJ3.out (StepR.alloc W3 (.cells #[.string x, .int .i64 (st + 1)] 137))) HS4.out)
                  have HNI4 : Hid (NotIn _ A4 c4) := fun _ g off e => by
                    rcases hA4 g off e with ⟨h1, off', h2⟩ | h1
                    · exact hNI.out h1 g off' h2
                    · have := HK3.out.lt
                      simp at h1; omega
                  have HQ4 : Hid (Que w4 (W.heap.size + 1) 137 2 A4 (todo2.length + 1) c4 (flat plC (todo2 ++ [(x, st + 1)]))) := by
                    show Que _ _ _ _ _ _ _ _
                    rw [flat_append]; exact hQ4
                  clear hQ4 hg4 hrow hA4 hS4 hnb HS4 p1
                  gi_wp2
                  gi_roundg ((Ln lab).length - (j + 1))
                  case rel => exact ⟨pre2 ++ [(x, st + 1)], todo2 ++ [(x, st + 1)], A4, todo2.length + 1, c4, j + 1, rfl, hjn, by go_num, by simp, by simp, HQ4.out, HNI4.out, by show Rm _ _ _ _ _ _; rw [List.length_append]; exact HM4.out, HN4.out, HB3.out, HJ4.out, HK4.out, by simp at HB3g ⊢; omega, by omega, by omega⟩
                  case measure => omega
                · gi_wp2
                  simp only [Exit.noGoto]
                  go_end0
                  exact ⟨⟨_, rfl⟩, .inr ⟨_, HB3.out.got, hJx3⟩⟩
            · have hlz : ¬ (j : Int) < ((Ln lab).length : Int) := by omega
              have hBc : BfsL Ln start pre2 todo2 (lab, st) [] := by
                have h1 := hB.out; rwa [List.drop_of_length_le (by omega)] at h1
              have HB3 := Lib.hid hBc.close
              clear hBc hB
              gi_wp2
              gi_roundg (2 * (U.length + 1 - pre2.length) + todo2.length)
              case rel => exact ⟨pre2, todo2, A2, todo2.length, c2, rfl, rfl, rfl, hQ.out, hM.out, hN.out, HB3.out, hJ2.out, hz2, by omega⟩
              case measure => omega
end Go.Proofs.YtddlohbhchjjhaaGreatDoor

namespace Go.Proofs.YtddlohbhchjjhaaGreatDoor
open Go.RowKit Go.Maps
attribute [local go_sem] Oper.semAt_some

set_option maxHeartbeats 400000 in
theorem reached_any (b : Nat) (s : ByteArray) (w : World) :
    Calls Tryz.prog 65 #[.map (some b), .string s] w fun e w' => e = .returned (.func (.func 108) #[] #[.pointer (some ⟨w.heap.size + 1, 0, none⟩), .pointer (some ⟨w.heap.size, 0, none⟩)]) ∧
      w' = (w.alloc (.cells #[.map (some b)] 81)).alloc (.cells #[.string s] 9) := by
  go_enter Tryz.func65, Tryz.ntmps65
  go_wp2
  go_ret
  exact ⟨rfl, rfl⟩
/-- A map of lists of strings, with its rows below hi. -/
structure Nxm (w : World) (hi b N : Nat) (gn : ByteArray → Option Value) (Ln : ByteArray → List ByteArray) : Prop where
  lt : b < hi
  map : Rm w Tryz.prog 9 b N gn
  rows : ∀ s, ∃ A c, (gn s).getD (.slice none 0 0) = .slice A (Ln s).length c ∧ Sl w hi 1 A (Ln s).length (strs (Ln s)) ∧ (Ln s).length ≤ c ∧ c ≤ maxLen
theorem Nxm.keep {W W' : World} {hi b N : Nat} {gn : ByteArray → Option Value} {Ln : ByteArray → List ByteArray} (h : Nxm W hi b N gn Ln) (hk : ∀ j, j < hi → W'.heap[j]? = W.heap[j]?) : Nxm W' hi b N gn Ln :=
  ⟨h.lt, h.map.block (hk b h.lt), fun s => by
    obtain ⟨A, c, h1, h2, h3⟩ := h.rows s
    exact ⟨A, c, h1, h2.keep fun p hp => World.cell?_of_block (hk p.block hp), h3⟩⟩
theorem Nxm.below {W W' : World} {hi b N B : Nat} {gn : ByteArray → Option Value} {Ln : ByteArray → List ByteArray} (h : Nxm W hi b N gn Ln) (hb : Below B W W') (hB : hi ≤ B) : Nxm W' hi b N gn Ln := h.keep fun j hj => hb.block j (by omega)
/-- behind reached's two boxes -/
theorem Nxm.boxed {W : World} {hi b N : Nat} {gn : ByteArray → Option Value} {Ln : ByteArray → List ByteArray} (h : Nxm W hi b N gn Ln) (hz : hi ≤ W.heap.size) (s : ByteArray) :
    NxR ((W.alloc (.cells #[.map (some b)] 81)).alloc (.cells #[.string s] 9)) Tryz.prog 9 81 hi (W.heap.size + 1) W.heap.size b N s gn Ln := by
  have h2 := h.below (((Below.refl _ W).alloc (Nat.le_refl _) (.cells #[.map (some b)] 81)).alloc (by simp) (.cells #[.string s] 9)) hz
  refine ⟨?_, ?_, h2.lt, h2.map, h2.rows⟩
  · have := World.alloc_heap_new (W.alloc (.cells #[.map (some b)] 81)) (.cells #[.string s] 9); rwa [World.size_alloc] at this
  · exact (Below.heap_alloc _ _ _ (by simp)).trans (World.alloc_heap_new W _)
theorem keepR_put {bm : Nat} {e : TypeId} {Kf : Nat → Prop} (W : World) (l : Nat) (r : Loop) (o' : Obj) (hl : W.heap[l]? = some (.loop r)) (hb : l ≠ bm) (hf : ¬ Kf l) : KeepR bm e Kf W (W.putObj l o') :=
  ⟨by simp, fun k _ hk => World.putObj_heap_other (fun e' => by
    subst e'
    rcases hk with h | h | h
    · exact hb h
    · rw [hl] at h; exact h
    · exact hf h)⟩
theorem KeepR.refl (bm : Nat) (e : TypeId) (Kf : Nat → Prop) (W : World) : KeepR bm e Kf W W := ⟨Nat.le_refl _, fun _ _ _ => rfl⟩
theorem StepR.below {bm B : Nat} {e : TypeId} {A C w : World} (h : StepR bm e A C) (hb : Below B w A) (hB : B ≤ bm) (hz : B ≤ A.heap.size) : Below B w C :=
  hb.trans ⟨h.os, h.tape, h.output, h.size, fun k hk => h.block k (by omega) (.inl (by omega))⟩
theorem stepR_rec {bm D : Nat} {e : TypeId} {A C : World} (h : StepR bm e A C) (hD : D + 2 = bm) (hz : bm ≤ A.heap.size) : Rec2 D A C :=
  ⟨h.block D (by omega) (.inl (by omega)), h.block (D + 1) (by omega) (.inl (by omega))⟩
theorem one_grown {w w' : World} {b : Nat} {v : Value} {t : TypeId} {row : Option Nat} (h : w.heap[b]? = some (.cells #[v] t (0, 0))) (hg : w.grownBy w' row) (hr : some b ≠ row) : w'.heap[b]? = some (.cells #[v] t (0, 0)) :=
  (hg.block b (Array.getElem?_eq_some_iff.1 h).1 hr).trans h
theorem resultsRet {w : World} {a : Array Value} {r : Nat} {x : Bool} (ha : a[4]?.getD undef = .pointer (some ⟨r, 0, none⟩)) (h : w.heap[r]? = some (.cells #[.bool x] 4 (0, 0))) :
    (results Tryz.f64 a).run Tryz.prog w = .ok (.bool x) w := by
  have hc := cell_of_one h
  simp [results, Tryz.results64, ha, go_sem, hc]

set_option maxRecDepth 100000 in
set_option maxHeartbeats 2000000 in
theorem returns_any (hi b N : Nat) (s : ByteArray) (gn : ByteArray → Option Value) (Ln : ByteArray → List ByteArray) (U : List ByteArray) (w : World) (hm : Nxm w hi b N gn Ln) (hz : hi ≤ w.heap.size)
    (hU : ∀ x, ∀ y ∈ Ln x, y ∈ U) (hUl : U.length ≤ 1000) (hUs : ∀ y ∈ U, y.size ≤ maxLen) (hss : s.size ≤ maxLen) :
    Calls Tryz.prog 64 #[.map (some b), .string s] w fun e w' => ∃ r : Bool, e = .returned (.bool r) ∧ (r = true ↔ Rch Ln s s) ∧ Below w.heap.size w w' := by
  refine (callsIn_wide (n := 6)).1 ?_
  have hf1 : Fence.wide.fn 65 := trivial
  have HM := Lib.hid hm; have HU := Lib.hid hU; have HUS := Lib.hid hUs
  clear hm hU hUs
  refine callsIn_of_wp_marks Tryz.func64 rfl trivial ?_ rfl
  simp only [Tryz.ntmps64, List.size_toArray, List.length_cons, List.length_nil, Nat.reduceAdd, Nat.reduceSub, Array.replicate_succ, Array.replicate_zero, List.push_toArray, List.append_toArray, List.nil_append, List.cons_append]
  gi_wp2_with (gi_at_call 65; refine (callsIn_wide.2 (reached_any _ _ _)).mono ?_; rintro e w' ⟨rfl, rfl⟩)
  obtain ⟨W1, hW1⟩ : ∃ W1, (w.alloc (.cells #[.string s] 9)).alloc (.cells #[.bool false] 4) = W1 := ⟨_, rfl⟩
  have hz1 : W1.heap.size = w.heap.size + 2 := by rw [← hW1]; simp
  have hb1 : Below w.heap.size w W1 := by rw [← hW1]; exact ((Below.refl _ w).alloc (Nat.le_refl _) _).alloc (by simp) _
  have g0 : W1.heap[w.heap.size]? = some (.cells #[.string s] 9 (0, 0)) := by rw [← hW1]; exact (Below.heap_alloc _ _ _ (by simp)).trans (World.alloc_heap_new w _)
  have g1 : W1.heap[w.heap.size + 1]? = some (.cells #[.bool false] 4 (0, 0)) := by
    rw [← hW1]
    have := World.alloc_heap_new (w.alloc (.cells #[.string s] 9)) (.cells #[.bool false] 4); rwa [World.size_alloc] at this
  have hnx : NxR ((W1.alloc (.cells #[.map (some b)] 81)).alloc (.cells #[.string s] 9)) Tryz.prog 9 81 hi (w.heap.size + 1 + 1 + 1) (w.heap.size + 1 + 1) b N s gn Ln := by
    have := (HM.out.below hb1 hz).boxed (by omega) s
    rw [hz1] at this; exact this
  rw [hW1]
  obtain ⟨W2, hW2⟩ : ∃ W2, (W1.alloc (.cells #[.map (some b)] 81)).alloc (.cells #[.string s] 9) = W2 := ⟨_, rfl⟩
  have hz2 : W2.heap.size = w.heap.size + 4 := by rw [← hW2]; simp; omega
  have hb12 : Below W1.heap.size W1 W2 := by rw [← hW2]; exact ((Below.refl _ W1).alloc (Nat.le_refl _) _).alloc (by simp) _
  have hb2 : Below w.heap.size w W2 := hb1.trans (hb12.mono (by omega))
  replace g0 := (hb12.block w.heap.size (by omega)).trans g0
  replace g1 := (hb12.block (w.heap.size + 1) (by omega)).trans g1
  rw [hW2] at hnx ⊢
  clear hW1 hW2 hb12 hb1 hz1 W1
  refine wpIn_rangeT (α := ByteArray × Nat) (F := Fence.wide) (n := 6) rfl (by omega) (gf := 108) (lb := #[.pointer (some ⟨w.heap.size + 1 + 1 + 1, 0, none⟩), .pointer (some ⟨w.heap.size + 1 + 1, 0, none⟩)]) rfl trivial (enters_of Tryz.func108 (by kernel_rfl) rfl)
    (reached_st 5 (by omega) hi (w.heap.size + 1 + 1 + 1) (w.heap.size + 1 + 1) b N (W2.heap.size + 2) s gn Ln U W2 hnx (by omega) (by omega) (by omega) (by omega) HU.out hUl HUS.out hss) KeepR.trans (fun W l r o' hl hlr => keepR_put W l r o' hlr (by omega) (by omega)) (fun A C h hA => stepR_rec h rfl hA) (Below.refl _ _) (fun _ => rfl)
    (fun pre W => W.heap[w.heap.size]? = some (.cells #[.string s] 9 (0, 0)) ∧ W.heap[w.heap.size + 1]? = some (.cells #[.bool false] 4 (0, 0)) ∧ Hid (∀ x ∈ pre, x.1 ≠ s) ∧ Below w.heap.size w W ∧ w.heap.size + 4 ≤ W.heap.size)
    (fun c pre W => c = .ret ∧ W.heap[w.heap.size + 1]? = some (.cells #[.bool true] 4 (0, 0)) ∧ Hid (∃ x ∈ pre, x.1 = s) ∧ Below w.heap.size w W)
    ?hI ?hIx ?hIS ⟨g0, g1, (fun x h => by cases h), hb2, by omega⟩
    (fun x => { tmps := #[.map (some b), .string s, undef, .pointer (some ⟨w.heap.size, 0, none⟩), .pointer (some ⟨w.heap.size + 1, 0, none⟩), .string x.1, .map (some b), .string s, .func (.func 108) #[] #[.pointer (some ⟨w.heap.size + 1 + 1 + 1, 0, none⟩), .pointer (some ⟨w.heap.size + 1 + 1, 0, none⟩)], .string x.1, .int .i64 x.2, undef, undef, undef], defers := [] }) ?assign ?body ?done ?stop
  case hI =>
    rintro pre A C row ⟨h0, h1, h2, h3, h4⟩ hg hr
    refine ⟨one_grown h0 hg (fun e => ?_), one_grown h1 hg (fun e => ?_), h2, h3.grown hg h3.size (fun k e => ?_), Nat.le_trans h4 hg.size⟩
    · have := (hr _ e.symm).1; omega
    · have := (hr _ e.symm).1; omega
    · have := (hr _ e).1; omega
  case hIx =>
    rintro c pre A C row ⟨h0, h1, h2, h3⟩ hg hr
    refine ⟨h0, one_grown h1 hg (fun e => ?_), h2, h3.grown hg h3.size (fun k e => ?_)⟩
    · have := (hr _ e.symm).1; omega
    · have := (hr _ e).1; omega
  case hIS =>
    rintro pre A C ⟨h0, h1, h2, h3, h4⟩ hs
    exact ⟨(hs.block _ (by omega) (.inl (by omega))).trans h0, (hs.block _ (by omega) (.inl (by omega))).trans h1, h2, hs.below h3 (by omega) (by omega), Nat.le_trans h4 hs.size⟩
  case assign =>
    intro l x W K hK
    gi_wp2
    exact hK
  case body =>
    rintro l pre x W hpf _ ⟨h0, h1, h2, h3, h4⟩
    have c0 := cell_of_one h0
    have c1 := cell_of_one h1
    have f1 := free_of_one h1
    have H0 := Lib.hid h0; have H1 := Lib.hid h1; have H3 := Lib.hid h3
    obtain ⟨y, k⟩ := x
    clear h0 h1 h3 g0 g1 hb2 hnx hpf
    by_cases e : y = s
    · subst e
      gi_wp2
      exact ⟨⟨Below.heap_setCell _ _ _ _ (by simp; omega), Below.heap_setCell _ _ _ _ (by simp; omega)⟩, rfl, one_setCell H1.out, ⟨(y, k), by simp, rfl⟩, H3.out.setCell (p := ⟨w.heap.size + 1, 0, none⟩) (by simp) _⟩
    · have hne := str_ne e
      have HE := Lib.hid e
      clear e
      gi_wp2
      refine ⟨Rec2.refl _ _, KeepR.refl _ _ _ _, H0.out, H1.out, ?_, H3.out, h4⟩
      intro z hz'
      rcases List.mem_append.1 hz' with h | h
      · exact h2.out z h
      · rw [List.mem_singleton.1 h]; exact HE.out
  case done =>
    rintro D xs W hD ⟨_, hS⟩ ⟨h0, h1, h2, h3, h4⟩ hK
    have c1 := cell_of_one h1
    have f1 := free_of_one h1
    have H1 := Lib.hid h1; have H3 := Lib.hid h3; have HK := Lib.hid hK; have HS := Lib.hid hS
    clear h0 h1 h3 hK hS
    gi_wp2
    have hK2 := (KeepsOthers.setCell W ⟨w.heap.size + 1, 0, none⟩ (.bool false)).same D _ HK.out rfl
    refine ⟨by simp, .inl ⟨_, _, rfl, run_takeDeferred hK2, ?_⟩⟩
    refine ⟨_, resultsRet rfl ((World.putObj_heap_other (by omega)).trans (one_setCell H1.out)), false, rfl, ?_, ?_⟩
    · constructor
      · intro h; cases h
      · intro h
        obtain ⟨x, hx, e⟩ := List.mem_map.1 ((HS.out s).2 h)
        exact absurd e (h2.out x hx)
    · exact (H3.out.setCell (p := ⟨w.heap.size + 1, 0, none⟩) (by simp) _).grown (grownBy_putObj' _ _ _) ((H3.out.setCell (p := ⟨w.heap.size + 1, 0, none⟩) (by simp) _).size) (fun k e => by cases e; omega)
  case stop =>
    rintro D c pre W hD hS ⟨rfl, h1, h2, h3⟩ hK
    have H1 := Lib.hid h1; have H3 := Lib.hid h3; have HK := Lib.hid hK; have HS := Lib.hid hS
    clear h1 h3 hK hS
    gi_wp2
    refine ⟨by simp, .inl ⟨_, _, rfl, run_takeDeferred HK.out, ?_⟩⟩
    refine ⟨_, resultsRet rfl ((World.putObj_heap_other (by omega)).trans H1.out), true, rfl, ?_, ?_⟩
    · obtain ⟨x, hx, e⟩ := h2.out
      exact ⟨fun _ => HS.out.sound s (e ▸ List.mem_map_of_mem hx), fun _ => rfl⟩
    · exact H3.out.grown (grownBy_putObj' _ _ _) H3.out.size (fun k e => by cases e; omega)
end Go.Proofs.YtddlohbhchjjhaaGreatDoor

namespace Go.Proofs.YtddlohbhchjjhaaGreatDoor
open Go.RowKit Go.Maps

theorem infoStr : (Tryz.prog.info? 9).map (fun i => (i.zero, i.size, i.bytes)) = some (some (.string ⟨#[]⟩), 1, 16) := by kernel_rfl
theorem below_none {w w1 : World} (hg : w.grownBy w1 none) : Below w.heap.size w w1 := ⟨hg.os, hg.tape, hg.output, hg.size, fun k hk => hg.block k hk (by simp)⟩
abbrev Ix := Bool × ByteArray
/-- the slices in both maps -/
def sli (gd gu : ByteArray → Option Value) (p : Ix) : Value := (if p.1 then gu p.2 else gd p.2).getD (.slice none 0 0)
theorem sli_d (gd gu : ByteArray → Option Value) (s : ByteArray) (v : Value) : sli (upd gd s v) gu = fun p => if p = (false, s) then v else sli gd gu p := by
  funext ⟨b, t⟩
  cases b with
  | true => simp [sli]
  | false =>
    by_cases e : t = s
    · simp [sli, upd, e]
    · simp [sli, upd, e]
theorem sli_u (gd gu : ByteArray → Option Value) (s : ByteArray) (v : Value) : sli gd (upd gu s v) = fun p => if p = (true, s) then v else sli gd gu p := by
  funext ⟨b, t⟩
  cases b with
  | false => simp [sli]
  | true =>
    by_cases e : t = s
    · simp [sli, upd, e]
    · simp [sli, upd, e]
/-- Both maps, made in blocks bd and bu, hold the lists L; their rows lie from base on. -/
structure Edg (w : World) (bd bu base N : Nat) (gd gu : ByteArray → Option Value) (L : Ix → List ByteArray) : Prop where
  d : Rm w Tryz.prog 9 bd N gd
  u : Rm w Tryz.prog 9 bu N gu
  rows : Grp w base 9 (sli gd gu) L
  len : ∀ p, (L p).length ≤ N
theorem Edg.below {w w' : World} {bd bu base N : Nat} {gd gu : ByteArray → Option Value} {L : Ix → List ByteArray} (h : Edg w bd bu base N gd gu L) (hb : Below w.heap.size w w') : Edg w' bd bu base N gd gu L :=
  ⟨h.d.below hb h.d.lt, h.u.below hb h.u.lt, h.rows.below hb, h.len⟩
theorem Edg.alloc {w : World} {bd bu base N : Nat} {gd gu : ByteArray → Option Value} {L : Ix → List ByteArray} (h : Edg w bd bu base N gd gu L) (o : Obj) : Edg (w.alloc o) bd bu base N gd gu L := h.below ((Below.refl _ w).alloc (Nat.le_refl _) o)
def apL (L : Ix → List ByteArray) (i : Ix) (s : ByteArray) : Ix → List ByteArray := fun j => if j = i then L i ++ [s] else L j
theorem apL_len {L : Ix → List ByteArray} {N : Nat} (h : ∀ p, (L p).length ≤ N) (i : Ix) (s : ByteArray) (p : Ix) : (apL L i s p).length ≤ N + 1 := by
  unfold apL
  split
  · rw [List.length_append]; have := h i; simp; omega
  · have := h p; omega
/-- deps[s] = append(deps[s], x): from the append to the store -/
theorem Edg.stepD {w w1 w2 : World} {bd bu base N : Nat} {gd gu : ByteArray → Option Value} {L : Ix → List ByteArray} (h : Edg w bd bu base N gd gu L) (hlt : bd < base ∧ bu < base ∧ bd ≠ bu) {s x : ByteArray} {g cap : Nat}
    (ho : w1.ownsRow base 9 1 (.slice (some ⟨g, 0, none⟩) ((L (false, s)).length + 1) cap) ((L (false, s)).length + 1) (strs (L (false, s)) ++ [.string x])) (hg : w.grownBy w1 (sli gd gu (false, s)).ownBlock) (hat : (sli gd gu (false, s)).ownBlock = some g ∨ g = w.heap.size)
    (hr : Rm w2 Tryz.prog 9 bd (N + 1) (upd gd s (.slice (some ⟨g, 0, none⟩) ((L (false, s)).length + 1) cap))) (hg2 : w1.grownBy w2 (some bd)) :
    Edg w2 bd bu base (N + 1) (upd gd s (.slice (some ⟨g, 0, none⟩) ((L (false, s)).length + 1) cap)) gu (apL L (false, s) x) := by
  have hne : ∀ b, b < base → some b ≠ (sli gd gu (false, s)).ownBlock := fun b hb e => by have := ((h.rows.own (false, s)).lt b e.symm).1; omega
  refine ⟨hr, ((h.u.kept hg (hne bu hlt.2.1)).kept hg2 (fun e => hlt.2.2 (by cases e; rfl))).more (by omega), ?_, apL_len h.len _ _⟩
  rw [sli_d]
  exact (h.rows.app (false, s) ho hg hat).other hg2 hlt.1
theorem Edg.stepU {w w1 w2 : World} {bd bu base N : Nat} {gd gu : ByteArray → Option Value} {L : Ix → List ByteArray} (h : Edg w bd bu base N gd gu L) (hlt : bd < base ∧ bu < base ∧ bd ≠ bu) {s x : ByteArray} {g cap : Nat}
    (ho : w1.ownsRow base 9 1 (.slice (some ⟨g, 0, none⟩) ((L (true, s)).length + 1) cap) ((L (true, s)).length + 1) (strs (L (true, s)) ++ [.string x])) (hg : w.grownBy w1 (sli gd gu (true, s)).ownBlock) (hat : (sli gd gu (true, s)).ownBlock = some g ∨ g = w.heap.size)
    (hr : Rm w2 Tryz.prog 9 bu (N + 1) (upd gu s (.slice (some ⟨g, 0, none⟩) ((L (true, s)).length + 1) cap))) (hg2 : w1.grownBy w2 (some bu)) :
    Edg w2 bd bu base (N + 1) gd (upd gu s (.slice (some ⟨g, 0, none⟩) ((L (true, s)).length + 1) cap)) (apL L (true, s) x) := by
  have hne : ∀ b, b < base → some b ≠ (sli gd gu (true, s)).ownBlock := fun b hb e => by have := ((h.rows.own (true, s)).lt b e.symm).1; omega
  refine ⟨((h.d.kept hg (hne bd hlt.1)).kept hg2 (fun e => hlt.2.2 (by cases e; rfl))).more (by omega), hr, ?_, apL_len h.len _ _⟩
  rw [sli_u]
  exact (h.rows.app (true, s) ho hg hat).other hg2 hlt.2.1
/-- what the lists hold when the keys of left are still to come and, of the target lab, the first j of its deps have been looked at -/
structure EdL (ts : List Tg) (left : ByteArray → Bool) (lab : Option ByteArray) (ds : List ByteArray) (L : Ix → List ByteArray) : Prop where
  d : ∀ s, L (false, s) = if lab = some s then ds.filter (isT ts) else if left s then [] else nxT ts s
  u : ∀ d s, s ∈ L (true, d) ↔ (lab = some s ∧ d ∈ ds.filter (isT ts)) ∨ (lab ≠ some s ∧ left s = false ∧ d ∈ nxT ts s)
theorem nxT_none {ts : List Tg} {s : ByteArray} (h : isT ts s = false) : nxT ts s = [] := by
  unfold nxT; unfold isT at h
  cases hf : findT ts s with
  | none => rfl
  | some t => rw [hf] at h; cases h
theorem EdL.start (ts : List Tg) : EdL ts (isT ts) none [] (fun _ => []) :=
  ⟨fun s => by
    cases h : isT ts s with
    | true => simp
    | false => simp [nxT_none h], fun d s => by
    constructor
    · intro h; cases h
    · rintro (⟨h, _⟩ | ⟨_, h, hd⟩)
      · cases h
      · rw [nxT_none h] at hd; cases hd⟩
theorem EdL.enter {ts : List Tg} {left : ByteArray → Bool} {lab : ByteArray} {L : Ix → List ByteArray} (h : EdL ts left none [] L) (hl : left lab = true) : EdL ts (fun z => left z && !decide (z = lab)) (some lab) [] L :=
  ⟨fun s => by
    rw [h.d s]
    by_cases e : s = lab
    · subst e; simp [hl]
    · simp [e, Ne.symm e], fun d s => by
    rw [h.u d s]
    by_cases e : s = lab
    · subst e; simp [hl]
    · simp [e, Ne.symm e]⟩
theorem EdL.skip {ts : List Tg} {left : ByteArray → Bool} {lab x : ByteArray} {ds : List ByteArray} {L : Ix → List ByteArray} (h : EdL ts left (some lab) ds L) (hx : isT ts x = false) : EdL ts left (some lab) (ds ++ [x]) L := by
  have e : (ds ++ [x]).filter (isT ts) = ds.filter (isT ts) := by simp [hx]
  exact ⟨fun s => by rw [e]; exact h.d s, fun d s => by rw [e]; exact h.u d s⟩
theorem EdL.take {ts : List Tg} {left : ByteArray → Bool} {lab x : ByteArray} {ds : List ByteArray} {L : Ix → List ByteArray} (h : EdL ts left (some lab) ds L) (hx : isT ts x = true) : EdL ts left (some lab) (ds ++ [x]) (apL (apL L (false, lab) x) (true, x) lab) := by
  have e : (ds ++ [x]).filter (isT ts) = ds.filter (isT ts) ++ [x] := by simp [hx]
  refine ⟨fun s => ?_, fun d s => ?_⟩
  · have h1 := h.d s
    rw [e]
    by_cases hs : s = lab
    · subst hs
      simp only [apL, Prod.mk.injEq, Bool.false_eq_true, false_and, if_false, if_true] at h1 ⊢
      rw [h1]
    · have hs' : ¬ (some lab = some s) := fun h => hs (Option.some.inj h).symm
      rw [if_neg hs'] at h1 ⊢
      simp only [apL, Prod.mk.injEq, Bool.false_eq_true, false_and, if_false, true_and, hs]
      exact h1
  · rw [e]
    have h1 := h.u d s
    by_cases hd : d = x
    · subst hd
      have e2 : apL (apL L (false, lab) d) (true, d) lab (true, d) = L (true, d) ++ [lab] := by simp [apL]
      rw [e2, List.mem_append, h1, List.mem_singleton, List.mem_append, List.mem_singleton]
      by_cases hs : s = lab
      · subst hs; simp
      · have hs' : some lab ≠ some s := fun h => hs (Option.some.inj h).symm
        simp [hs, hs']
    · have e2 : apL (apL L (false, lab) x) (true, x) lab (true, d) = L (true, d) := by simp [apL, hd]
      rw [e2, h1, List.mem_append, List.mem_singleton]
      simp [hd]
theorem EdL.leave {ts : List Tg} {left : ByteArray → Bool} {t : Tg} {lab : ByteArray} {L : Ix → List ByteArray} (h : EdL ts left (some lab) t.deps L) (hf : findT ts lab = some t) (hl : left lab = false) : EdL ts left none [] L := by
  have e : nxT ts lab = t.deps.filter (isT ts) := by unfold nxT; rw [hf]
  refine ⟨fun s => ?_, fun d s => ?_⟩
  · rw [h.d s]
    by_cases hs : lab = s
    · subst hs; simp [hl, e]
    · simp [hs]
  · rw [h.u d s]
    by_cases hs : lab = s
    · subst hs; simp [hl, e]
    · simp [hs]
theorem EdL.end_ {ts : List Tg} {left : ByteArray → Bool} {L : Ix → List ByteArray} (h : EdL ts left none [] L) (hl : ∀ s, left s = false) : (∀ s, L (false, s) = nxT ts s) ∧ ∀ d s, s ∈ L (true, d) ↔ d ∈ nxT ts s :=
  ⟨fun s => by rw [h.d s]; simp [hl], fun d s => by rw [h.u d s]; simp [hl]⟩
end Go.Proofs.YtddlohbhchjjhaaGreatDoor

namespace Go.Proofs.YtddlohbhchjjhaaGreatDoor
open Go.RowKit Go.Maps

theorem rmr_le {w : World} {P : Program} {k : TypeId} {b r N cnt : Nat} {g : ByteArray → Option Value} {left : ByteArray → Bool} (h : RmR w P k b r N g left cnt) : cnt ≤ N := by
  obtain ⟨D, lf, ⟨es, clock, since, seen, c0, h1, F, hs, hD, h3, _, h4, _⟩, _⟩ := h
  rw [← h4]
  refine Nat.le_trans ?_ hs
  unfold leftOf
  exact Array.size_filter_le
theorem sli_none : sli (fun _ => none) (fun _ => none) = fun _ => .slice none 0 0 := by
  funext ⟨b, _⟩; cases b <;> rfl
theorem Edg.other {w w' : World} {bd bu base N r : Nat} {gd gu : ByteArray → Option Value} {L : Ix → List ByteArray} (h : Edg w bd bu base N gd gu L) (hg : w.grownBy w' (some r)) (hr : r < base) (h1 : bd ≠ r) (h2 : bu ≠ r) : Edg w' bd bu base N gd gu L :=
  ⟨h.d.kept hg (fun e => h1 (by cases e; rfl)), h.u.kept hg (fun e => h2 (by cases e; rfl)), h.rows.other hg hr, h.len⟩
theorem idxG_inv {ts : List Tg} {s : ByteArray} {v : Value} (h : idxG ts s = some v) : ∃ t, findT ts s = some t ∧ v = tgV t := by
  unfold idxG at h
  cases hf : findT ts s with
  | none => rw [hf] at h; cases h
  | some t => rw [hf] at h; cases h; exact ⟨t, rfl, rfl⟩
theorem idxG_none {ts : List Tg} {s : ByteArray} (h : isT ts s = false) : idxG ts s = none := by
  unfold idxG; unfold isT at h
  cases hf : findT ts s with
  | none => rfl
  | some x => rw [hf] at h; cases h
theorem new_cell (w : World) (t : TypeId) (x : ByteArray) : ∀ j u, [Value.string x][j]? = some u → (w.alloc (.cells #[.string x] t)).cell? (Addr.add ⟨w.heap.size, 0, none⟩ j) = some u := by
  intro j u h
  cases j with
  | zero =>
    have hk : Bk (w.alloc (.cells #[.string x] t)) w.heap.size t #[.string x] := Bk.new w _ _
    have := hk.cell 0
    simp at this h
    subst h
    simp [Addr.add]
  | succ j => simp at h

set_option maxRecDepth 100000 in
set_option maxHeartbeats 8000000 in
theorem edges_any (b N M B : Nat) (ts : List Tg) (w : World) (hM : Rm w Tryz.prog 9 b N (idxG ts)) (hok : ∀ t ∈ ts, TgOk w B t) (hB : B ≤ w.heap.size) (hN : N ≤ 1000) (hdm : ∀ t ∈ ts, t.deps.length ≤ M) (hM1 : M ≤ 1000) :
    Calls Tryz.prog 62 #[.map (some b)] w fun e w' => e = .returned (.tuple #[.map (some w.heap.size), .map (some (w.heap.size + 1))]) ∧
      ∃ gd gu L, Edg w' w.heap.size (w.heap.size + 1) (w.heap.size + 3) 2000000 gd gu L ∧ (∀ s, L (false, s) = nxT ts s) ∧ (∀ d s, s ∈ L (true, d) ↔ d ∈ nxT ts s) ∧ Below w.heap.size w w' := by
  have hblt := hM.lt
  have HM := Lib.hid hM; have HOK := Lib.hid hok; have HDM := Lib.hid hdm
  clear hM hok hdm
  obtain ⟨i0, hi, hz0, hz1, hz2⟩ := info_parts infoStr
  have Hi := Lib.hid hi; have Hz0 := Lib.hid hz0; have Hz1 := Lib.hid hz1; have Hz2 := Lib.hid hz2
  clear hi hz0 hz1 hz2
  have hmm := @run_makeMap Tryz.prog
  have R0 := Lib.hid ((HM.out.alloc (.map #[] 0)).alloc (.map #[] 0))
  have E0 : Hid (Edg ((w.alloc (.map #[] 0)).alloc (.map #[] 0)) w.heap.size (w.heap.size + 1) (w.heap.size + 3) 0 (fun _ => none) (fun _ => none) (fun _ => [])) := by
    refine ⟨(Rm.made w Tryz.prog _).alloc _, ?_, by rw [sli_none]; exact Grp.start _ _ _, fun _ => Nat.le_refl _⟩
    have := Rm.made (w.alloc (.map #[] 0)) Tryz.prog 9
    rw [World.size_alloc] at this
    exact this
  have B0 : Hid (Below w.heap.size w ((w.alloc (.map #[] 0)).alloc (.map #[] 0))) := ((Below.refl _ w).alloc (Nat.le_refl _) _).alloc (by simp) _
  go_enter Tryz.func62, Tryz.ntmps62
  go_wp2_with (at_range; refine halt_ ?_)
  refine unhalt ?_
  refine wpList_range_rm rfl _ 73 rfl 9 35 Tryz.underlying9 Tryz.underlying73 b N (idxG ts) rfl R0.out ?_
  intro w1 cnt0 hr1 hg1 hz1
  have hc0 := rmr_le hr1
  simp only [World.size_alloc] at hr1 hz1
  have RR := Lib.hid hr1
  have E1 := Lib.hid (E0.out.below (below_none hg1))
  have B1 : Hid (Below w.heap.size w w1) := B0.out.trans ((below_none hg1).mono (by simp; omega))
  have HKT : Hid (2 * M * cnt0 ≤ 2000000) := by
    show _ ≤ _
    have h1 : 2 * M * cnt0 ≤ 2 * 1000 * 1000 := Nat.mul_le_mul (by omega) (by omega)
    omega
  clear hr1 hg1 R0 E0 B0 HM
  go_wp2
  go_frame
  simp only [World.size_alloc]
  go_loopw [16] (fun _ wr => ∃ left cnt gd gu L N', Hid (RmR wr Tryz.prog 9 b (w.heap.size + 2) N (idxG ts) left cnt) ∧ Hid (Edg wr w.heap.size (w.heap.size + 1) (w.heap.size + 3) N' gd gu L) ∧ Hid (EdL ts left none [] L) ∧ N' + 2 * M * cnt ≤ 2 * M * cnt0 ∧ Hid (Below w.heap.size w wr) ∧ w.heap.size + 3 ≤ wr.heap.size) (fun _ wr => wr.rangeLeft b (w.heap.size + 2))
  case atStart => exact ⟨_, cnt0, _, _, _, 0, RR.out, E1.out, by show EdL _ _ _ _ _; simp only [idxG_some]; exact EdL.start ts, by omega, B1.out, by omega⟩
  case round =>
    obtain ⟨left, cnt, gd, gu, L, N', hR, hE, hL, hN', hBel, hwz⟩ := hrel
    have HMS := Lib.hid hR.out.left_
    go_wp2_with (at_next; refine halt_ ?_)
    refine unhalt ?_
    refine wpList_next_rm rfl _ rfl 9 Tryz.underlying9 b (w.heap.size + 2) N (idxG ts) left cnt rfl hR.out ?_ ?_
    · intro hdone
      have HE := Lib.hid (hL.out.end_ hdone)
      go_wp2
      go_ret2
      exact ⟨rfl, gd, gu, L, ⟨hE.out.d.more (by have := HKT.out; omega), hE.out.u.more (by have := HKT.out; omega), hE.out.rows, fun p => by have := hE.out.len p; have := HKT.out; omega⟩, HE.out.1, HE.out.2, hBel.out⟩
    · intro s v w2 cnt2 hsz hls hgs hR2 hlt hg2 hz2 hen
      obtain ⟨t, hf, rfl⟩ := idxG_inv hgs
      have HF := Lib.hid hf
      have HSZ := Lib.hid hsz
      have hbr : b ≠ w.heap.size + 2 := by omega
      have HE2 := Lib.hid (hE.out.other hg2 (by omega) (by omega) (by omega))
      have HL2 := Lib.hid (hL.out.enter hls)
      have HB2 : Hid (Below w.heap.size w w2) := hBel.out.grown hg2 (by omega) (fun k e => by cases e; omega)
      have HR2 := Lib.hid hR2
      clear hR2 hls hgs hg2 hR hE hL hBel hf
      have HT : Hid (TgOk w B t) := HOK.out t (findT_lab HF.out).2
      have HDN : Hid (t.dn ≤ M) := by show _ ≤ _; rw [← HT.out.dlen]; exact HDM.out t (findT_lab HF.out).2
      obtain ⟨lab, kind, dA, dn, dc, deps, vA, vn, vc, vis⟩ := t
      simp only [tgV] at hen ⊢
      have hdnM : dn ≤ M := HDN.out
      have HR3 := Lib.hid (HR2.out.kept (World.grownBy_alloc w2 (.cells #[.string lab, .int .i64 kind, .slice dA dn dc, .slice vA vn vc] 35) none) (by simp) (by simp))
      have HE3 := Lib.hid (HE2.out.alloc (.cells #[.string lab, .int .i64 kind, .slice dA dn dc, .slice vA vn vc] 35))
      have HB3 : Hid (Below w.heap.size w (w2.alloc (.cells #[.string lab, .int .i64 kind, .slice dA dn dc, .slice vA vn vc] 35))) := HB2.out.alloc (by omega) _
      have hk0 : Bk (w2.alloc (.cells #[.string lab, .int .i64 kind, .slice dA dn dc, .slice vA vn vc] 35)) w2.heap.size 35 #[.string lab, .int .i64 kind, .slice dA dn dc, .slice vA vn vc] := Bk.new w2 _ _
      have u2 := hk0.cell 2
      simp at u2
      clear hk0 HR2 HE2 HB2
      go_wp2
      go_loopw [24] (fun i wr => ∃ (j : Nat) (gd gu : ByteArray → Option Value) (L : Ix → List ByteArray) (N2 : Nat), j ≤ dn ∧ i = .int .i64 j ∧ Hid (RmR wr Tryz.prog 9 b (w.heap.size + 2) N (idxG ts) (fun z => left z && !decide (z = s)) cnt2) ∧ Hid (Edg wr w.heap.size (w.heap.size + 1) (w.heap.size + 3) N2 gd gu L) ∧ Hid (EdL ts (fun z => left z && !decide (z = s)) (some s) (deps.take j) L) ∧ N2 ≤ N' + 2 * j ∧ Hid (Below w.heap.size w wr) ∧ w.heap.size + 3 ≤ wr.heap.size) (fun i _ => dn - (intOf i).toNat)
      case atStart => exact ⟨0, gd, gu, L, N', Nat.zero_le _, rfl, HR3.out, HE3.out, HL2.out, by omega, HB3.out, by simp; omega⟩
      case round =>
        clear HL2 HR3 HE3 HB3
        obtain ⟨j, gd, gu, L, N2, hj, rfl, hR, hE, hL, hN2, hBel, hwz2⟩ := hrel
        by_cases hjn : j < dn
        · obtain ⟨db, off, x, rfl, hdB, hx, y0⟩ := (HT.out.below hBel.out hB).d.str_at hjn
          have HTK := Lib.hid (take_snoc hx)
          have HXS := Lib.hid (HT.out.ds x (List.mem_of_getElem? hx))
          clear hx
          have hlz : (j : Int) < (dn : Int) := by omega
          have hlk := hR.out.rm.look_ok Tryz.underlying9 Tryz.underlying73 (Tryz.zeroValue35 _) HXS.out
          rw [idxG_some] at hlk
          cases hs : isT ts x with
          | false =>
            rw [idxG_none hs, hs] at hlk
            simp only [Option.getD_none] at hlk
            have HL3 := Lib.hid (hL.out.skip hs)
            have HR3 := Lib.hid (hR.out.kept (World.grownBy_alloc wr (.cells #[.string ⟨#[]⟩, .int .i64 0, .slice none 0 0, .slice none 0 0] 35) none) (by simp) (by simp))
            have HE3 := Lib.hid (hE.out.alloc (.cells #[.string ⟨#[]⟩, .int .i64 0, .slice none 0 0, .slice none 0 0] 35))
            have HB3 : Hid (Below w.heap.size w (wr.alloc (.cells #[.string ⟨#[]⟩, .int .i64 0, .slice none 0 0, .slice none 0 0] 35))) := hBel.out.alloc (by omega) _
            clear hs
            go_wp2
            go_roundw
            case rel => exact ⟨j + 1, gd, gu, L, N2, hjn, by go_num, HR3.out, HE3.out, by show EdL _ _ _ _ _; rw [HTK.out]; exact HL3.out, by omega, HB3.out, by simp; omega⟩
            case measure => simp [intOf]; omega
          | true =>
            obtain ⟨q, hq⟩ : ∃ q, findT ts x = some q := Option.isSome_iff_exists.1 hs
            have hgx : idxG ts x = some (tgV q) := by unfold idxG; rw [hq]; rfl
            rw [hgx, hs] at hlk
            have HL3 := Lib.hid (hL.out.take hs)
            obtain ⟨xlab, xkind, xdA, xdn, xdc, xdeps, xvA, xvn, xvc, xvis⟩ := q
            simp only [Option.getD_some, tgV] at hlk
            clear hq hgx hs
            generalize hwA : wr.alloc (.cells #[.string xlab, .int .i64 xkind, .slice xdA xdn xdc, .slice xvA xvn xvc] 35) = wA
            have HRA : Hid (RmR wA Tryz.prog 9 b (w.heap.size + 2) N (idxG ts) (fun z => left z && !decide (z = s)) cnt2) := by
              subst hwA; exact hR.out.kept (World.grownBy_alloc wr _ none) (by simp) (by simp)
            have HEA : Hid (Edg wA w.heap.size (w.heap.size + 1) (w.heap.size + 3) N2 gd gu L) := by subst hwA; exact hE.out.alloc _
            have HBA : Hid (Below w.heap.size w wA) := by subst hwA; exact hBel.out.alloc (by omega) _
            have hzA : w.heap.size + 3 ≤ wA.heap.size := by subst hwA; simp; omega
            have hld := HEA.out.d.look Tryz.underlying9 Tryz.underlying81 (Tryz.zeroValue33 _) HSZ.out
            have hld2 : (Instr.lookup 81 (.map (some w.heap.size)) (.string s) false).run Tryz.prog wA = .ok (sli gd gu (false, s)) wA := hld
            clear hld
            go_wp2_with (at_builtin; refine halt_ ?_)
            refine unhalt ?_
            refine wpList_append_lies _ rfl (.tmp 39) (.tmp 41) 33 rfl (w.heap.size + 3) 9 i0 _ 1 16 Tryz.underlying33 Hi.out Hz0.out Hz1.out Hz2.out rfl (by decide) (sli gd gu (false, s)) (L (false, s)).length (strs (L (false, s))) rfl ?own _ 1 _ [.string x] rfl rfl ?nw (by simp [Value.oneCell']) (by decide) ?l1 ?l2 ?l3 _ rfl ?_
            case own => exact (HEA.out.alloc _).rows.own (false, s)
            case nw => exact new_cell wA _ x
            case l1 => have := HEA.out.len (false, s); have := HKT.out; unfold maxLen; omega
            case l2 => have := HEA.out.len (false, s); have := HKT.out; omega
            case l3 => simp; omega
            intro g cap w4 ho hg hat hgl
            have HO := Lib.hid ho; have HG := Lib.hid hg; have HAT := Lib.hid hat
            have hrow : Hid (∀ k, (sli gd gu (false, s)).ownBlock = some k → w.heap.size + 3 ≤ k) := fun k e => ((HEA.out.rows.own (false, s)).lt k e).1
            have hz4 := hg.size
            rw [World.size_alloc] at hz4
            clear ho hg hat hgl hld2 hlk
            go_wp2_with (at_mapUpdate; refine halt_ ?_)
            refine unhalt ?_
            refine wpList_put_rm rfl _ _ _ 81 rfl 9 33 Tryz.underlying9 Tryz.underlying81 w.heap.size N2 gd rfl ((HEA.out.alloc _).d.kept HG.out (fun e => by have := hrow.out _ e.symm; omega)) (by have := HKT.out; unfold maxLen; omega) s HSZ.out _ rfl rfl ?_
            intro w5 hM5 hg5
            have HE5 := Lib.hid ((HEA.out.alloc _).stepD (by omega) HO.out HG.out HAT.out hM5 hg5)
            have HR5 := Lib.hid (((HRA.out.kept (World.grownBy_alloc wA _ none) (by simp) (by simp)).kept HG.out (fun e => by have := hrow.out _ e.symm; omega) (fun e => by have := hrow.out _ e.symm; omega)).kept hg5 (fun e => by cases e; omega) (fun e => by simp at e))
            have HB5 : Hid (Below w.heap.size w w5) := ((HBA.out.alloc (by omega) _).grown HG.out (by simp; omega) (fun k e => by have := hrow.out _ e; omega)).grown hg5 (by omega) (fun k e => by cases e; omega)
            have hz5 : w.heap.size + 3 ≤ w5.heap.size := by have := hg5.size; omega
            clear hM5 hg5 HO HG HAT HEA HRA HBA hrow
            generalize upd gd s (Value.slice (some ⟨g, 0, none⟩) ((L (false, s)).length + 1) cap) = gd5 at HE5
            generalize hL5 : apL L (false, s) x = L5 at HE5 HL3
            have hlu : (Instr.lookup 81 (.map (some (w.heap.size + 1))) (.string x) false).run Tryz.prog w5 = .ok (sli gd5 gu (true, x)) w5 := HE5.out.u.look Tryz.underlying9 Tryz.underlying81 (Tryz.zeroValue33 _) HXS.out
            go_wp2_with (at_builtin; refine halt_ ?_)
            refine unhalt ?_
            refine wpList_append_lies _ rfl (.tmp 47) (.tmp 49) 33 rfl (w.heap.size + 3) 9 i0 _ 1 16 Tryz.underlying33 Hi.out Hz0.out Hz1.out Hz2.out rfl (by decide) (sli gd5 gu (true, x)) (L5 (true, x)).length (strs (L5 (true, x))) rfl ?own _ 1 _ [.string s] rfl rfl ?nw (by simp [Value.oneCell']) (by decide) ?l1 ?l2 ?l3 _ rfl ?_
            case own => exact (HE5.out.alloc _).rows.own (true, x)
            case nw => exact new_cell w5 _ s
            case l1 => have := HE5.out.len (true, x); have := HKT.out; unfold maxLen; omega
            case l2 => have := HE5.out.len (true, x); have := HKT.out; omega
            case l3 => simp; omega
            intro g6 cap6 w6 ho hg hat hgl
            have HO := Lib.hid ho; have HG := Lib.hid hg; have HAT := Lib.hid hat
            have hrow : Hid (∀ k, (sli gd5 gu (true, x)).ownBlock = some k → w.heap.size + 3 ≤ k) := fun k e => ((HE5.out.rows.own (true, x)).lt k e).1
            have hz6 := hg.size
            rw [World.size_alloc] at hz6
            clear ho hg hat hgl hlu
            go_wp2_with (at_mapUpdate; refine halt_ ?_)
            refine unhalt ?_
            refine wpList_put_rm rfl _ _ _ 81 rfl 9 33 Tryz.underlying9 Tryz.underlying81 (w.heap.size + 1) (N2 + 1) gu rfl ((HE5.out.alloc _).u.kept HG.out (fun e => by have := hrow.out _ e.symm; omega)) (by have := HKT.out; unfold maxLen; omega) x HXS.out _ rfl rfl ?_
            intro w7 hM7 hg7
            have HE7 := Lib.hid ((HE5.out.alloc _).stepU (by omega) HO.out HG.out HAT.out hM7 hg7)
            have HR7 := Lib.hid (((HR5.out.kept (World.grownBy_alloc w5 _ none) (by simp) (by simp)).kept HG.out (fun e => by have := hrow.out _ e.symm; omega) (fun e => by have := hrow.out _ e.symm; omega)).kept hg7 (fun e => by cases e; omega) (fun e => by simp at e))
            have HB7 : Hid (Below w.heap.size w w7) := ((HB5.out.alloc (by omega) _).grown HG.out (by simp; omega) (fun k e => by have := hrow.out _ e; omega)).grown hg7 (by omega) (fun k e => by cases e; omega)
            have hz7 : w.heap.size + 3 ≤ w7.heap.size := by have := hg7.size; omega
            clear hM7 hg7 HO HG HAT HE5 HR5 HB5 hrow
            go_wp2
            go_roundw
            case rel => exact ⟨j + 1, _, _, _, N2 + 2, hjn, by go_num, HR7.out, HE7.out, by show EdL _ _ _ _ _; rw [HTK.out]; exact HL3.out, by omega, HB7.out, hz7⟩
            case measure => simp [intOf]; omega
        · have hlz : ¬ (j : Int) < (dn : Int) := by omega
          have hje : j = dn := by omega
          have HDL : Hid (deps.length = dn) := HT.out.dlen
          have HL3 : Hid (EdL ts (fun z => left z && !decide (z = s)) none [] L) := by
            have h1 := hL.out
            rw [List.take_of_length_le (by rw [HDL.out]; omega)] at h1
            exact EdL.leave h1 HF.out (by simp)
          have HNN : N2 + 2 * M * cnt2 ≤ 2 * M * cnt0 := by
            have h1 : 2 * M * (cnt2 + 1) ≤ 2 * M * cnt := Nat.mul_le_mul_left _ (by omega)
            rw [Nat.mul_add] at h1
            have := HDN.out
            omega
          have HMS2 := Lib.hid hR.out.left_
          clear hL
          go_wp2
          go_roundw
          case rel => exact ⟨_, cnt2, gd, gu, L, N2, hR.out, hE.out, HL3.out, HNN, hBel.out, hwz2⟩
          case measure => rw [HMS.out, HMS2.out]; exact hlt
end Go.Proofs.YtddlohbhchjjhaaGreatDoor

namespace Go.Proofs.YtddlohbhchjjhaaGreatDoor
open Go.RowKit Go.Maps

set_option maxRecDepth 100000 in
set_option maxHeartbeats 4000000 in
theorem sortedKeys_any (b N : Nat) (ts : List Tg) (w : World) (hM : Rm w Tryz.prog 9 b N (idxG ts)) (hN : N ≤ 1000) :
    Calls Tryz.prog 63 #[.map (some b)] w fun e w' => ∃ A n c l, e = .returned (.slice A n c) ∧ w'.ownsRow w.heap.size 9 1 (.slice A n c) n (strs l) ∧ n ≤ N ∧ Asc l ∧ (∀ x, x ∈ l ↔ isT ts x = true) ∧ Below w.heap.size w w' := by
  have hblt := hM.lt
  have HM := Lib.hid hM
  clear hM
  obtain ⟨i0, hi, hz0, hz1, hz2⟩ := info_parts infoStr
  have Hi := Lib.hid hi; have Hz0 := Lib.hid hz0; have Hz1 := Lib.hid hz1; have Hz2 := Lib.hid hz2
  clear hi hz0 hz1 hz2
  go_enter Tryz.func63, Tryz.ntmps63
  go_wp2_with (at_range; refine halt_ ?_)
  refine unhalt ?_
  refine wpList_range_rm rfl _ 73 rfl 9 35 Tryz.underlying9 Tryz.underlying73 b N (idxG ts) rfl HM.out ?_
  intro w1 cnt0 hr1 hg1 hz1
  have hc0 := rmr_le hr1
  have RR := Lib.hid hr1
  have B1 : Hid (Below w.heap.size w w1) := below_none hg1
  clear hr1 hg1 HM
  go_wp2
  go_frame
  go_loopw [3] (fun q wr => ∃ left cnt A n c l, q = .slice A n c ∧ Hid (RmR wr Tryz.prog 9 b w.heap.size N (idxG ts) left cnt) ∧ Hid (wr.ownsRow (w.heap.size + 1) 9 1 (.slice A n c) n (strs l)) ∧ n + cnt ≤ cnt0 ∧ Hid (l.Nodup ∧ ∀ x, x ∈ l ↔ isT ts x = true ∧ left x = false) ∧ Hid (Below w.heap.size w wr) ∧ w.heap.size + 1 ≤ wr.heap.size) (fun _ wr => wr.rangeLeft b w.heap.size)
  case atStart =>
    refine ⟨_, cnt0, none, 0, 0, [], rfl, RR.out, World.ownsRow_nil _ _ _ _, by omega, ⟨List.nodup_nil, fun x => ?_⟩, B1.out, by omega⟩
    rw [idxG_some]; cases isT ts x <;> simp
  case round =>
    obtain ⟨left, cnt, A, n, c, l, rfl, hR, hO, hnc, hL, hBel, hwz⟩ := hrel
    have HMS := Lib.hid hR.out.left_
    go_wp2_with (at_next; refine halt_ ?_)
    refine unhalt ?_
    refine wpList_next_rm rfl _ rfl 9 Tryz.underlying9 b w.heap.size N (idxG ts) left cnt rfl hR.out ?_ ?_
    · intro hdone
      have HE : Hid (Asc (srtB l) ∧ ∀ x, x ∈ srtB l ↔ isT ts x = true) := ⟨srtB_asc hL.out.1, fun x => by rw [srtB_mem, hL.out.2 x]; simp [hdone x]⟩
      clear hdone hL
      go_wp2_with (go_at_call 107; refine (sort_any (w.heap.size + 1) n c A l _ hO.out (by omega)).mono ?_; rintro e w' ⟨rfl, hs1, hs2⟩)
      go_ret
      refine ⟨A, n, c, srtB l, rfl, ownsRow_lower hs1 (by omega), by omega, HE.out.1, HE.out.2, hBel.out.grown hs2 (by omega) (fun k hk => by have := ownBlock_ge hO.out k hk; omega)⟩
    · intro s v w2 cnt2 hsz hls hgs hR2 hlt hg2 hz2 hen
      have hst : isT ts s = true := by rw [← idxG_some, hgs]; rfl
      have HL2 : Hid ((l ++ [s]).Nodup ∧ ∀ x, x ∈ l ++ [s] ↔ isT ts x = true ∧ (left x && !decide (x = s)) = false) := by
        obtain ⟨h1, h2⟩ := hL.out
        refine ⟨List.nodup_append.2 ⟨h1, by simp, fun a ha b hb => ?_⟩, fun x => ?_⟩
        · rintro rfl
          rw [List.mem_singleton.1 hb] at ha
          have := ((h2 s).1 ha).2
          rw [hls] at this; cases this
        · rw [List.mem_append, h2 x, List.mem_singleton]
          by_cases e : x = s
          · subst e; simp [hst]
          · simp [e]
      have HO2 : Hid (w2.ownsRow (w.heap.size + 1) 9 1 (.slice A n c) n (strs l)) := hO.out.kept hg2 (by
        cases hv : (Value.slice A n c).ownBlock with
        | none => exact .inl rfl
        | some k => exact .inr (fun e => by have := ownBlock_ge hO.out k hv; cases e; omega))
      have HB2 : Hid (Below w.heap.size w w2) := hBel.out.grown hg2 (by omega) (fun k e => by cases e; omega)
      have HR2 := Lib.hid hR2
      have HSZ := Lib.hid hsz
      clear hR2 hls hgs hg2 hR hO hL hBel hst hsz
      go_wp2_with (at_builtin; refine halt_ ?_)
      refine unhalt ?_
      refine wpList_append_sl (base := w.heap.size + 1) (size := 1) _ rfl (.tmp 11) (.tmp 13) 33 rfl 9 i0 _ 16 Tryz.underlying33 Hi.out Hz0.out Hz1.out Hz2.out rfl (by decide) (.slice A n c) n (strs l) rfl ?own (w2.heap.size + 1) _ 1 _ [.string s] rfl ?nw (by simp [Value.oneCell']) ?l1 ?l2 ?l3 ?_
      case own => exact HO2.out.kept (World.grownBy_alloc w2 _ none) (by cases hv : (Value.slice A n c).ownBlock with | none => exact .inl rfl | some k => exact .inr (by simp))
      case nw => exact ⟨rfl, fun _ => ⟨w2.heap.size, 0, by rw [hz2], Nat.lt_succ_self _, fun j u hu => by have := new_cell w2 9 s j u hu; rwa [Addr.add_lit] at this⟩⟩
      case l1 => unfold maxLen; omega
      case l2 => omega
      case l3 => simp; omega
      intro A3 c3 w3 ho3 hg3 hc3 hc4
      have HO3 : Hid (w3.ownsRow (w.heap.size + 1) 9 1 (.slice A3 (n + 1) c3) (n + 1) (strs (l ++ [s]))) := by
        show World.ownsRow _ _ _ _ _ _ _
        have e : strs (l ++ [s]) = strs l ++ [.string s] := by simp [strs]
        rw [e]; exact ho3
      have hgr : Hid (∀ k, (Value.slice A n c).ownBlock = some k → w.heap.size + 1 ≤ k) := fun k hk => ownBlock_ge HO2.out k hk
      have HB3 : Hid (Below w.heap.size w w3) := (HB2.out.alloc (by omega) _).grown hg3 (by simp; omega) (fun k hk => by have := hgr.out k hk; omega)
      have HR3 := Lib.hid ((HR2.out.kept (World.grownBy_alloc w2 (.cells #[.string s] 9) none) (by simp) (by simp)).kept hg3 (fun e => by have := hgr.out _ e.symm; omega) (fun e => by have := hgr.out _ e.symm; omega))
      have hz3 : w.heap.size + 1 ≤ w3.heap.size := by have := hg3.size; simp at this; omega
      have HMS2 := Lib.hid HR3.out.left_
      clear ho3 hg3 HO2 HB2 HR2 hgr
      go_wp2
      go_roundw
      case rel => exact ⟨_, cnt2, A3, n + 1, c3, l ++ [s], rfl, HR3.out, HO3.out, by omega, HL2.out, HB3.out, hz3⟩
      case measure => rw [HMS.out, HMS2.out]; exact hlt
end Go.Proofs.YtddlohbhchjjhaaGreatDoor

namespace Go.Proofs.YtddlohbhchjjhaaGreatDoor

/-- the number of steps that has been noted for a label: the last note counts -/
def noted (pre : List (ByteArray × Nat)) (s : ByteArray) : Option Nat := (pre.reverse.find? (fun x => decide (x.1 = s))).map Prod.snd
theorem noted_snoc (pre : List (ByteArray × Nat)) (y s : ByteArray) (k : Nat) : noted (pre ++ [(y, k)]) s = if s = y then some k else noted pre s := by
  unfold noted
  rw [List.reverse_append]
  simp only [List.reverse_cons, List.reverse_nil, List.nil_append, List.cons_append, List.find?_cons]
  by_cases e : s = y
  · subst e; simp
  · simp [e, Ne.symm e]
theorem noted_mem {pre : List (ByteArray × Nat)} {s : ByteArray} {k : Nat} (h : noted pre s = some k) : (s, k) ∈ pre := by
  unfold noted at h
  obtain ⟨x, hx, rfl⟩ := Option.map_eq_some_iff.1 h
  have h1 := List.find?_some hx
  have h2 := List.mem_reverse.1 (List.mem_of_find?_eq_some hx)
  simp at h1
  rw [← h1]; exact h2
theorem noted_some {pre : List (ByteArray × Nat)} {s : ByteArray} (h : s ∈ pre.map Prod.fst) : ∃ k, noted pre s = some k := by
  unfold noted
  obtain ⟨x, hx, e⟩ := List.mem_map.1 h
  cases hf : pre.reverse.find? (fun x => decide (x.1 = s)) with
  | some y => exact ⟨y.2, rfl⟩
  | none =>
    have := List.find?_eq_none.1 hf x (List.mem_reverse.2 hx)
    simp [e] at this
/-- the best of some labels: noted with the least number, and of those with it the least -/
structure Best (st : ByteArray → Option Nat) (ds : List ByteArray) (x : ByteArray) (k : Nat) : Prop where
  mem : x ∈ ds
  at_ : st x = some k
  low : ∀ d ∈ ds, ∀ j, st d = some j → k < j ∨ (k = j ∧ less d x = false)
def NoneIn (st : ByteArray → Option Nat) (ds : List ByteArray) : Prop := ∀ d ∈ ds, st d = none
/-- the state of the inner loop -/
def Scan (st : ByteArray → Option Nat) (ds : List ByteArray) (found : Bool) (x : ByteArray) : Prop := (found = false ∧ x = ⟨#[]⟩ ∧ NoneIn st ds) ∨ (found = true ∧ ∃ k, Best st ds x k)
theorem Scan.start (st : ByteArray → Option Nat) : Scan st [] false ⟨#[]⟩ := .inl ⟨rfl, rfl, fun d h => by cases h⟩
theorem Scan.skip {st : ByteArray → Option Nat} {ds : List ByteArray} {f : Bool} {x d : ByteArray} (h : Scan st ds f x) (hd : st d = none) : Scan st (ds ++ [d]) f x := by
  rcases h with ⟨h1, h2, h3⟩ | ⟨h1, k, h2, h3, h4⟩
  · refine .inl ⟨h1, h2, fun e he => ?_⟩
    rcases List.mem_append.1 he with he | he
    · exact h3 e he
    · rw [List.mem_singleton.1 he]; exact hd
  · refine .inr ⟨h1, k, List.mem_append_left _ h2, h3, fun e he j hj => ?_⟩
    rcases List.mem_append.1 he with he | he
    · exact h4 e he j hj
    · rw [List.mem_singleton.1 he, hd] at hj; cases hj
theorem Scan.worse {st : ByteArray → Option Nat} {ds : List ByteArray} {x d : ByteArray} {j k : Nat} (h : Scan st ds true x) (hd : st d = some j) (hk : st x = some k) (hw : k < j ∨ (k = j ∧ less d x = false)) : Scan st (ds ++ [d]) true x := by
  rcases h with ⟨h1, _⟩ | ⟨h1, k', h2, h3, h4⟩
  · cases h1
  · rw [hk] at h3; cases h3
    refine .inr ⟨h1, k, List.mem_append_left _ h2, hk, fun e he j' hj => ?_⟩
    rcases List.mem_append.1 he with he | he
    · exact h4 e he j' hj
    · rw [List.mem_singleton.1 he, hd] at hj; cases hj
      rw [List.mem_singleton.1 he]; exact hw
theorem Scan.first {st : ByteArray → Option Nat} {ds : List ByteArray} {x d : ByteArray} {j : Nat} (h : Scan st ds false x) (hd : st d = some j) : Scan st (ds ++ [d]) true d := by
  rcases h with ⟨_, _, h3⟩ | ⟨h1, _⟩
  · refine .inr ⟨rfl, j, by simp, hd, fun e he j' hj => ?_⟩
    rcases List.mem_append.1 he with he | he
    · rw [h3 e he] at hj; cases hj
    · rw [List.mem_singleton.1 he, hd] at hj; cases hj
      rw [List.mem_singleton.1 he]; exact .inr ⟨rfl, lessB_irrefl _⟩
  · cases h1
theorem Scan.better {st : ByteArray → Option Nat} {ds : List ByteArray} {x d : ByteArray} {j k : Nat} (h : Scan st ds true x) (hd : st d = some j) (hk : st x = some k) (hw : j < k ∨ (j = k ∧ less d x = true)) : Scan st (ds ++ [d]) true d := by
  rcases h with ⟨h1, _⟩ | ⟨h1, k', h2, h3, h4⟩
  · cases h1
  · rw [hk] at h3; cases h3
    refine .inr ⟨rfl, j, by simp, hd, fun e he j' hj => ?_⟩
    rcases List.mem_append.1 he with he | he
    · rcases h4 e he j' hj with h5 | ⟨rfl, h5⟩
      · left; omega
      · rcases hw with hw | ⟨rfl, hw⟩
        · exact .inl hw
        · right
          refine ⟨rfl, ?_⟩
          cases h6 : less e d with
          | false => rfl
          | true => have := lessB_trans h6 hw; rw [this] at h5; cases h5
    · rw [List.mem_singleton.1 he, hd] at hj; cases hj
      rw [List.mem_singleton.1 he]; exact .inr ⟨rfl, lessB_irrefl _⟩
theorem Scan.found {st : ByteArray → Option Nat} {ds : List ByteArray} {x : ByteArray} (h : Scan st ds true x) : ∃ k, Best st ds x k := by
  rcases h with ⟨h1, _⟩ | ⟨_, h⟩
  · cases h1
  · exact h
theorem Scan.unfound {st : ByteArray → Option Nat} {ds : List ByteArray} {x : ByteArray} (h : Scan st ds false x) : NoneIn st ds := by
  rcases h with ⟨_, _, h⟩ | ⟨h1, _⟩
  · exact h
  · cases h1
/-- what has been walked so far: from s on, each label the best one behind the one ahead of it, and none but the first one is s -/
inductive CycP (nx : ByteArray → List ByteArray) (st : ByteArray → Option Nat) (s : ByteArray) : List ByteArray → ByteArray → Prop
  | one : CycP nx st s [s] s
  | more {c : List ByteArray} {x y : ByteArray} {k : Nat} : CycP nx st s c x → Best st (nx x) y k → y ≠ s → CycP nx st s (c ++ [y]) y
/-- what Cycle notes: steps from s by users, s itself with none -/
structure Note (nx lu : ByteArray → List ByteArray) (s : ByteArray) (pre : List (ByteArray × Nat)) : Prop where
  got : Got lu s pre
  all : ∀ x, x ∈ pre.map Prod.fst ↔ Rch lu s x
  inv : ∀ d x, x ∈ lu d ↔ d ∈ nx x
def stOf (pre : List (ByteArray × Nat)) (s : ByteArray) : ByteArray → Option Nat := noted (pre ++ [(s, 0)])
theorem stOf_eq (pre : List (ByteArray × Nat)) (s x : ByteArray) : stOf pre s x = if x = s then some 0 else noted pre x := noted_snoc pre s x 0
section
variable {nx lu : ByteArray → List ByteArray} {s : ByteArray} {pre : List (ByteArray × Nat)}
theorem stp_rev (inv : ∀ d x, x ∈ lu d ↔ d ∈ nx x) : ∀ {n : Nat} {a b : ByteArray}, Stp nx n a b → Stp lu n b a
  | 0, a, b, h => (inv b a).2 h
  | _ + 1, _, b, ⟨c, hc, hb⟩ => Stp.cons ((inv b c).2 hb) (stp_rev inv hc)
theorem Note.le (h : Note nx lu s pre) {x : ByteArray} {k : Nat} (hk : stOf pre s x = some k) : k ≤ pre.length := by
  rw [stOf_eq] at hk
  by_cases e : x = s
  · rw [if_pos e] at hk; cases hk; omega
  · rw [if_neg e] at hk
    exact h.got.few _ (noted_mem hk)
/-- behind a label that is noted and is not s there is one with fewer steps -/
theorem Note.less (h : Note nx lu s pre) {x : ByteArray} {k : Nat} (hx : x ≠ s) (hk : stOf pre s x = some k) : ∃ d ∈ nx x, ∃ j, stOf pre s d = some j ∧ j < k := by
  rw [stOf_eq, if_neg hx] at hk
  obtain ⟨p, h1, h2, h3⟩ := h.got.par _ (noted_mem hk)
  simp only at h1 h2
  refine ⟨p.1, (h.inv _ _).1 h1, ?_⟩
  by_cases e : p.1 = s
  · exact ⟨0, by rw [stOf_eq, if_pos e], by omega⟩
  · rcases h3 with h3 | h3
    · rw [h3] at e; exact absurd rfl e
    · obtain ⟨j, hj⟩ := noted_some (pre := pre) (s := p.1) (List.mem_map_of_mem h3)
      have hm := noted_mem hj
      have : (p.1, j) = p := by
        have hn := h.got.nodup
        have : ∀ (l : List (ByteArray × Nat)), (l.map Prod.fst).Nodup → ∀ a ∈ l, ∀ b ∈ l, a.1 = b.1 → a = b := by
          intro l
          induction l with
          | nil => intro _ a ha; cases ha
          | cons c l ih =>
            intro hn a ha b hb hab
            rw [List.map_cons, List.nodup_cons] at hn
            rcases List.mem_cons.1 ha with rfl | ha'
            · rcases List.mem_cons.1 hb with rfl | hb'
              · rfl
              · exact absurd (List.mem_map_of_mem (f := Prod.fst) hb') (by rw [← hab]; exact hn.1)
            · rcases List.mem_cons.1 hb with rfl | hb'
              · exact absurd (List.mem_map_of_mem (f := Prod.fst) ha') (by rw [hab]; exact hn.1)
              · exact ih hn.2 a ha' b hb' hab
        exact this pre hn _ hm _ h3 rfl
      refine ⟨j, by rw [stOf_eq, if_neg e]; exact hj, ?_⟩
      have e2 : j = p.2 := by rw [← this]
      omega
/-- behind s there is one that is noted, if s is reached from itself -/
theorem Note.back (h : Note nx lu s pre) (hr : Rch nx s s) : ∃ d ∈ nx s, ∃ j, stOf pre s d = some j := by
  obtain ⟨n, hn⟩ := hr
  cases n with
  | zero => exact ⟨s, hn, 0, by rw [stOf_eq, if_pos rfl]⟩
  | succ n =>
    obtain ⟨d, hd, hs⟩ := Stp.uncons hn
    refine ⟨d, hd, ?_⟩
    by_cases e : d = s
    · exact ⟨0, by rw [stOf_eq, if_pos e]⟩
    · obtain ⟨j, hj⟩ := noted_some ((h.all d).2 ⟨n, stp_rev h.inv hs⟩)
      exact ⟨j, by rw [stOf_eq, if_neg e]; exact hj⟩
end
end Go.Proofs.YtddlohbhchjjhaaGreatDoor

namespace Go.Proofs.YtddlohbhchjjhaaGreatDoor
open Go.RowKit Go.Maps
attribute [local go_sem] Oper.semAt_some

theorem Edg.nxmD {w : World} {bd bu base N : Nat} {gd gu : ByteArray → Option Value} {L : Ix → List ByteArray} {nx : ByteArray → List ByteArray} (h : Edg w bd bu base N gd gu L) (hL : ∀ s, L (false, s) = nx s) : Nxm w w.heap.size bd N gd nx := by
  refine ⟨h.d.lt, h.d, fun s => ?_⟩
  obtain ⟨A, c, hf, h1, h2⟩ := h.rows.form (false, s)
  rw [← hL s]
  exact ⟨A, c, hf, h.rows.sl hf, h1, h2⟩
theorem Edg.nxmU {w : World} {bd bu base N : Nat} {gd gu : ByteArray → Option Value} {L : Ix → List ByteArray} (h : Edg w bd bu base N gd gu L) : Nxm w w.heap.size bu N gu (fun s => L (true, s)) := by
  refine ⟨h.u.lt, h.u, fun s => ?_⟩
  obtain ⟨A, c, hf, h1, h2⟩ := h.rows.form (true, s)
  exact ⟨A, c, hf, h.rows.sl hf, h1, h2⟩
/-- What Cycle answers. -/
def CycleR (ts : List Tg) (l : List ByteArray) : Prop :=
  (l = [] ∧ ∀ s, ¬ Rch (nxT ts) s s) ∨ (∃ s lu pre x, l ≠ [] ∧ isT ts s = true ∧ Rch (nxT ts) s s ∧ (∀ y, less y s = true → ¬ Rch (nxT ts) y y) ∧ Note (nxT ts) lu s pre ∧ CycP (nxT ts) (stOf pre s) s l x ∧ ∃ k, Best (stOf pre s) (nxT ts x) s k)
def CycEnd (ts : List Tg) (w : World) (e : Ending) (w' : World) : Prop := ∃ A' m c' l, e = .returned (.slice A' m c') ∧ Sl w' w'.heap.size 1 A' m (strs l) ∧ CycleR ts l ∧ Below w.heap.size w w'
def CycEnd2 (ts : List Tg) (w : World) (e : Ending) (w' : World) : Prop := ∃ A' m c' l, e = .returned (.slice A' m c') ∧ Sl w' w'.heap.size 1 A' m (strs l) ∧ CycleR ts l ∧ m ≤ c' ∧ Below w.heap.size w w'
theorem CycEnd2.one {ts : List Tg} {w : World} {e : Ending} {w' : World} (h : CycEnd2 ts w e w') : CycEnd ts w e w' := by
  obtain ⟨A', m, c', l, h1, h2, h3, _, h4⟩ := h
  exact ⟨A', m, c', l, h1, h2, h3, h4⟩
theorem resultsCyc {w : World} {a : Array Value} {v : Value} (ha : a[2]?.getD undef = v) : (results Tryz.f20 a).run Tryz.prog w = .ok v w := by
  simp [results, Tryz.results20, ha, go_sem]
/-- the map of numbers of steps -/
def stG (pre : List (ByteArray × Nat)) : ByteArray → Option Value := fun s => (noted pre s).map fun (k : Nat) => .int .i64 (k : Int)
theorem stG_snoc (pre : List (ByteArray × Nat)) (y : ByteArray) (k : Nat) : stG (pre ++ [(y, k)]) = upd (stG pre) y (.int .i64 k) := by
  funext s
  unfold stG upd
  rw [noted_snoc]
  split <;> rfl
theorem less_str (a b : ByteArray) : Op.bytesLess a.toList b.toList = less a b := by
  rw [ByteArray.toList_eq, ByteArray.toList_eq]; rfl
theorem stG_stOf (xs : List (ByteArray × Nat)) (x s : ByteArray) : stG (xs ++ [(x, 0)]) s = (stOf xs x s).map fun (k : Nat) => .int .i64 (k : Int) := by unfold stG stOf; rfl
/-- where the walk along a cycle stands -/
def At (st : ByteArray → Option Nat) (s cur : ByteArray) (most m : Nat) (cyc : List ByteArray) : Prop := (cur = s ∧ m = most + 2 ∧ cyc = [s]) ∨ (cur ≠ s ∧ st cur = some m)
theorem infoInt : (Tryz.prog.info? 3).map (fun i => (i.zero, i.size, i.bytes)) = some (some (.int .i64 0), 1, 8) := by kernel_rfl

set_option maxRecDepth 100000 in
set_option maxHeartbeats 8000000 in
theorem cycle_any2 (A : Option Addr) (n c B M : Nat) (ts : List Tg) (w : World) (h0 : Sl w B 4 A n (flat tgC ts)) (hok : ∀ t ∈ ts, TgOk w B t) (hB : B ≤ w.heap.size) (hn : n ≤ 1000) (hdm : ∀ t ∈ ts, t.deps.length ≤ M) (hM1 : M ≤ 1000) :
    Calls Tryz.prog 20 #[.slice A n c] w (CycEnd2 ts w) := by
  refine (callsIn_wide (n := 6)).1 ?_
  have hf1 : Fence.wide.fn 65 := trivial
  have hf2 : Fence.wide.fn 53 := trivial
  have hf3 : Fence.wide.fn 62 := trivial
  have hf4 : Fence.wide.fn 63 := trivial
  have hf5 : Fence.wide.fn 64 := trivial
  have HTL := Lib.hid (h0.len tgC_len (by omega))
  have H0 := Lib.hid h0; have HOK := Lib.hid hok; have HDM := Lib.hid hdm
  clear h0 hok hdm
  refine callsIn_of_wp_marks Tryz.func20 rfl trivial ?_ rfl
  simp only [Tryz.ntmps20, List.size_toArray, List.length_cons, List.length_nil, Nat.reduceAdd, Nat.reduceSub, Array.replicate_succ, Array.replicate_zero, List.push_toArray, List.append_toArray, List.nil_append, List.cons_append]
  gi_wp2_with (gi_at_call 53; refine (callsIn_wide.2 (index_any A n c B ts w H0.out hB (by omega) (fun t ht => (HOK.out t ht).ls))).mono ?_; rintro e w1 ⟨rfl, hM1', hb1⟩; refine halt_ ?_)
  refine unhalt ?_
  have HM := Lib.hid hM1'; have HB1 := Lib.hid hb1
  have hz1 : w.heap.size < w1.heap.size := HM.out.lt
  clear hM1' hb1
  have HE1 := Lib.hid (edges_any w.heap.size n M B ts w1 HM.out (fun t ht => (HOK.out t ht).below HB1.out hB) (by omega) hn HDM.out hM1)
  gi_wp2_with (gi_at_call 62; refine (callsIn_wide.2 HE1.out).mono ?_; rintro e w2 ⟨rfl, gd, gu, L, hE, hLd, hLu, hb2⟩; refine halt_ ?_)
  refine unhalt ?_
  have HE := Lib.hid hE; have HLd := Lib.hid hLd; have HLu := Lib.hid hLu; have HB2 := Lib.hid hb2
  have hz2 : w1.heap.size + 1 < w2.heap.size := HE.out.u.lt
  clear hE hLd hLu hb2 HE1
  have HK1 := Lib.hid (sortedKeys_any w.heap.size n ts w2 (HM.out.below HB2.out hz1) hn)
  gi_wp2_with (gi_at_call 63; refine (callsIn_wide.2 HK1.out).mono ?_; rintro e w3 ⟨kA, kn, kc, keys, rfl, hko, hkn, hka, hkm, hb3⟩; refine halt_ ?_)
  refine unhalt ?_
  have HKA := Lib.hid hka; have HKM := Lib.hid hkm; have HB3 := Lib.hid hb3
  have HKS := Lib.hid (Sl.of_own hko)
  have HKL : Hid (keys.length = kn) := by have := hko.1; rw [strs_len] at this; show _ = _; omega
  have HND := Lib.hid ((HE.out.nxmD HLd.out).below HB3.out (Nat.le_refl _))
  have HNU := Lib.hid (HE.out.nxmU.below HB3.out (Nat.le_refl _))
  have HU : Hid (∀ x, ∀ y ∈ nxT ts x, y ∈ ts.map Tg.lab) := fun x y hy => (isT_iff ts y).1 (nxT_mem hy).1
  have HU2 : Hid (∀ x, ∀ y ∈ L (true, x), y ∈ ts.map Tg.lab) := fun x y hy => (isT_iff ts y).1 (nxT_mem ((HLu.out x y).1 hy)).2
  have HUl : Hid ((ts.map Tg.lab).length ≤ 1000) := by show _ ≤ _; rw [List.length_map, HTL.out]; exact hn
  have HUs : Hid (∀ y ∈ ts.map Tg.lab, y.size ≤ maxLen) := fun y hy => by
    obtain ⟨t, ht, rfl⟩ := List.mem_map.1 hy
    exact (HOK.out t ht).ls
  have HBW : Hid (Below w.heap.size w w3) := (HB1.out.trans (HB2.out.mono (by omega))).trans (HB3.out.mono (by omega))
  have hz3 : w2.heap.size ≤ w3.heap.size := HB3.out.size
  clear hka hkm hb3 hko HE HK1 HM HB1 HB2 HB3 H0
  gi_wp2
  gi_loopw [28] (fun i wr => ∃ k : Nat, k ≤ kn ∧ i = .int .i64 k ∧ Hid (Below w3.heap.size w3 wr) ∧ Hid (∀ j y, j < k → keys[j]? = some y → ¬ Rch (nxT ts) y y)) (fun i _ => kn - (intOf i).toNat)
  case atStart => exact ⟨0, Nat.zero_le _, rfl, Below.refl _ _, fun j y h => absurd h (by omega)⟩
  case round =>
    obtain ⟨k, hk, rfl, hBr, hNo⟩ := hrel
    by_cases hlt : k < kn
    · obtain ⟨kb, ko, x, rfl, hkb, hx, y0⟩ := (HKS.out.below hBr.out (Nat.le_refl _)).str_at hlt
      have hxT : isT ts x = true := (HKM.out x).1 (List.mem_of_getElem? hx)
      have hxs : x.size ≤ maxLen := HUs.out x ((isT_iff ts x).1 hxT)
      have hlz : (k : Int) < (kn : Int) := by omega
      have HX := Lib.hid hx; have HXT := Lib.hid hxT
      have HR1 := Lib.hid (returns_any w2.heap.size w1.heap.size 2000000 x gd (nxT ts) (ts.map Tg.lab) wr (HND.out.below hBr.out hz3) (Nat.le_trans hz3 hBr.out.size) HU.out HUl.out HUs.out hxs)
      clear hx hxT
      gi_wp2_with (gi_at_call 64; refine (callsIn_wide.2 HR1.out).mono ?_; rintro e w4 ⟨r, rfl, hr, hb4⟩; refine halt_ ?_)
      refine unhalt ?_
      have HR := Lib.hid hr
      have HB4 : Hid (Below w3.heap.size w3 w4) := hBr.out.trans (hb4.mono hBr.out.size)
      clear hr hb4 HR1 hBr y0
      cases r with
      | false =>
        have HN2 : Hid (∀ j y, j < k + 1 → keys[j]? = some y → ¬ Rch (nxT ts) y y) := fun j y hj hy => by
          by_cases e : j = k
          · subst e
            rw [HX.out] at hy; cases hy
            intro h; have := HR.out.2 h; cases this
          · exact hNo.out j y (by omega) hy
        gi_wp2
        go_roundw
        case rel => exact ⟨k + 1, hlt, by go_num, HB4.out, HN2.out⟩
        case measure => simp [intOf]; omega
      | true =>
        have HRX := Lib.hid (HR.out.1 rfl)
        clear HR
        have hmm := @run_makeMap Tryz.prog
        gi_wp2_with (gi_at_call 65; refine (callsIn_wide.2 (reached_any _ _ _)).mono ?_; rintro e w' ⟨rfl, rfl⟩)
        obtain ⟨W1, hW1⟩ : ∃ W1, (w4.alloc (.map #[] 0)).alloc (.cells #[.map (some w4.heap.size)] 86) = W1 := ⟨_, rfl⟩
        have hy1 : W1.heap.size = w4.heap.size + 2 := by rw [← hW1]; simp
        have hbb : Below w4.heap.size w4 W1 := by rw [← hW1]; exact ((Below.refl _ w4).alloc (Nat.le_refl _) _).alloc (by simp) _
        have g0 : Rm W1 Tryz.prog 9 w4.heap.size 0 (stG []) := by rw [← hW1]; exact (Rm.made w4 Tryz.prog 9).alloc _
        have g1 : W1.heap[w4.heap.size + 1]? = some (.cells #[.map (some w4.heap.size)] 86 (0, 0)) := by
          rw [← hW1]
          have := World.alloc_heap_new (w4.alloc (.map #[] 0)) (.cells #[.map (some w4.heap.size)] 86); rwa [World.size_alloc] at this
        have hnx : NxR ((W1.alloc (.cells #[.map (some (w1.heap.size + 1))] 81)).alloc (.cells #[.string x] 9)) Tryz.prog 9 81 w2.heap.size (w4.heap.size + 1 + 1 + 1) (w4.heap.size + 1 + 1) (w1.heap.size + 1) 2000000 x gu (fun s => L (true, s)) := by
          have := ((HNU.out.below HB4.out hz3).below hbb (by have := HB4.out.size; omega)).boxed (by have := HB4.out.size; omega) x
          rw [hy1] at this; exact this
        rw [hW1]
        obtain ⟨W2, hW2⟩ : ∃ W2, (W1.alloc (.cells #[.map (some (w1.heap.size + 1))] 81)).alloc (.cells #[.string x] 9) = W2 := ⟨_, rfl⟩
        have hy2 : W2.heap.size = w4.heap.size + 4 := by rw [← hW2]; simp; omega
        have hb12 : Below W1.heap.size W1 W2 := by rw [← hW2]; exact ((Below.refl _ W1).alloc (Nat.le_refl _) _).alloc (by simp) _
        have hb2 : Below w4.heap.size w4 W2 := hbb.trans (hb12.mono (by omega))
        replace g0 := g0.below hb12 (by omega)
        replace g1 := (hb12.block (w4.heap.size + 1) (by omega)).trans g1
        rw [hW2] at hnx ⊢
        clear hW1 hW2 hb12 hbb hy1 W1
        have hz4 := HB4.out.size
        refine wpIn_rangeT (α := ByteArray × Nat) (F := Fence.wide) (n := 6) rfl (by omega) (gf := 108) (lb := #[.pointer (some ⟨w4.heap.size + 1 + 1 + 1, 0, none⟩), .pointer (some ⟨w4.heap.size + 1 + 1, 0, none⟩)]) rfl trivial (enters_of Tryz.func108 (by kernel_rfl) rfl)
          (reached_st 5 (by omega) w2.heap.size (w4.heap.size + 1 + 1 + 1) (w4.heap.size + 1 + 1) (w1.heap.size + 1) 2000000 (W2.heap.size + 2) x gu (fun s => L (true, s)) (ts.map Tg.lab) W2 hnx (by omega) (by omega) (by omega) (by omega) HU2.out HUl.out HUs.out hxs) KeepR.trans (fun W l r o' hl hlr => keepR_put W l r o' hlr (by omega) (by omega)) (fun A C h hA => stepR_rec h rfl hA) (Below.refl _ _) (fun _ => rfl)
          (fun pre W => W.heap[w4.heap.size + 1]? = some (.cells #[.map (some w4.heap.size)] 86 (0, 0)) ∧ Rm W Tryz.prog 9 w4.heap.size pre.length (stG pre) ∧ Below w4.heap.size w4 W ∧ w4.heap.size + 4 ≤ W.heap.size)
          (fun _ _ _ => False)
          ?hI ?hIx ?hIS ⟨g1, g0, hb2, by omega⟩ ?a1 ?assign ?body ?done ?stop
        case assign =>
          intro l y W K hK
          have HKK := Lib.hid hK
          clear hK
          gi_wp2
          exact HKK.out
        case hI =>
          rintro pre A C row ⟨h0, h1, h2, h3⟩ hg hr
          refine ⟨one_grown h0 hg (fun e => ?_), h1.kept hg (fun e => ?_), h2.grown hg h2.size (fun k e => ?_), Nat.le_trans h3 hg.size⟩
          · have := (hr _ e.symm).1; omega
          · have := (hr _ e.symm).1; omega
          · have := (hr _ e).1; omega
        case hIx => rintro c pre A C row hf _ _; exact hf
        case hIS =>
          rintro pre A C ⟨h0, h1, h2, h3⟩ hs
          exact ⟨(hs.block _ (by omega) (.inl (by omega))).trans h0, h1.block (hs.block _ (by omega) (.inl (by omega))), hs.below h2 (by omega) (by omega), Nat.le_trans h3 hs.size⟩
        case stop => rintro D c pre W hD hS hf hK; exact hf.elim
        case body =>
          rintro l pre y W hpf hWz ⟨h0, h1, h2, h3⟩
          have c0 := cell_of_one h0
          have H0 := Lib.hid h0; have H1 := Lib.hid h1; have H2 := Lib.hid h2
          have hpl := hpf.len HU2.out
          have hys : y.1.size ≤ maxLen := HUs.out y.1 ((hpf.sound y.1 (by simp)).mem HU2.out)
          have HUl' := HUl.out
          obtain ⟨y, ky⟩ := y
          simp only [List.length_append, List.length_cons, List.length_nil] at hpl
          simp only at hys
          clear h0 h1 h2 g0 g1 hb2 hnx hpf
          gi_wp2_with (gi_at_mapUpdate; refine halt_ ?_)
          refine unhalt ?_
          refine wpListIn_put_rm rfl _ _ _ 86 rfl 9 3 Tryz.underlying9 Tryz.underlying86 w4.heap.size pre.length (stG pre) rfl H1.out (by unfold maxLen; omega) y hys (.int .i64 ky) rfl rfl ?_
          intro w6 hM6 hg6
          rw [← stG_snoc] at hM6
          have HM6 := Lib.hid hM6; have HG6 := Lib.hid hg6
          clear hM6 hg6
          gi_wp2
          refine ⟨⟨HG6.out.block _ (by omega) (by simp; omega), HG6.out.block _ (by omega) (by simp; omega)⟩, ⟨HG6.out.size, fun j hj hc => HG6.out.block j hj (fun e => ?_)⟩, one_grown H0.out HG6.out (by simp), by rw [List.length_append]; exact HM6.out, H2.out.grown HG6.out (by omega) (fun k e => by cases e; omega), Nat.le_trans h3 HG6.out.size⟩
          have e' : j = w4.heap.size := by injection e
          subst e'
          rcases hc with h | h | h
          · omega
          · obtain ⟨_, ⟨_, _, h1, _⟩, _⟩ := H1.out
            rw [h1] at h; exact h
          · omega
        case done =>
          rintro D xs W hD ⟨hgot, hS⟩ ⟨h0, h1, h2, h3⟩ hK
          have c0 := cell_of_one h0
          have HNo : Hid (Note (nxT ts) (fun s => L (true, s)) x xs) := ⟨hgot, hS, HLu.out⟩
          have hpl := hgot.len HU2.out
          have HUl' := HUl.out
          have H0 := Lib.hid h0; have H1 := Lib.hid h1; have HK := Lib.hid hK
          have HBW5 : Hid (Below w4.heap.size w4 W) := h2
          clear h0 h1 h2 hK hgot hS g0 g1 hb2 hnx
          gi_wp2_with (gi_at_mapUpdate; refine halt_ ?_)
          refine unhalt ?_
          refine wpListIn_put_rm rfl _ _ _ 86 rfl 9 3 Tryz.underlying9 Tryz.underlying86 w4.heap.size xs.length (stG xs) rfl H1.out (by unfold maxLen; omega) x hxs (.int .i64 (0 : Nat)) rfl rfl ?_
          intro w6 hM6 hg6
          rw [← stG_snoc] at hM6
          have HM6 := Lib.hid hM6
          have HB6 : Hid (Below w4.heap.size w4 w6) := HBW5.out.grown hg6 HBW5.out.size (fun k e => by cases e; omega)
          have HX6 := Lib.hid (one_grown H0.out hg6 (by simp))
          have HD6 : Hid (w6.heap[D]? = some (.deferred (some []))) := (hg6.block D (Array.getElem?_eq_some_iff.1 HK.out).1 (by simp; omega)).trans HK.out
          have hz6 := hg6.size
          clear hM6 hg6 H0 H1 HK HBW5 c0
          gi_wp2
          have HO7 : Hid ((w6.alloc (.cells #[.string x] 9)).ownsRow w6.heap.size 9 1 (.slice (some ⟨w6.heap.size, 0, none⟩) 1 1) 1 (strs [x])) :=
            ⟨rfl, .inr ⟨w6.heap.size, 1, #[.string x], rfl, Nat.le_refl _, World.alloc_heap_new w6 _, Nat.le_refl _, by unfold maxLen; omega, rfl, rfl⟩⟩
          obtain ⟨i0, hi, hz0, hz1', hz2'⟩ := info_parts infoStr
          have Hi := Lib.hid hi; have Hz0 := Lib.hid hz0; have Hz1 := Lib.hid hz1'; have Hz2 := Lib.hid hz2'
          clear hi hz0 hz1' hz2'
          gi_loopg [11] (xs.length + 2) (fun m q wr => ∃ (Ac : Option Addr) (mc cc : Nat) (cyc : List ByteArray) (cur : ByteArray), q = .slice Ac (mc + 1) cc ∧ Hid (wr.ownsRow w6.heap.size 9 1 (.slice Ac (mc + 1) cc) (mc + 1) (strs cyc)) ∧ Hid (CycP (nxT ts) (stOf xs x) x cyc cur) ∧ cyc[mc]? = some cur ∧ Hid (At (stOf xs x) x cur xs.length m cyc) ∧ mc + m ≤ xs.length + 2 ∧ Hid (Below w6.heap.size w6 wr))
          case atStart => exact ⟨_, 0, 1, [x], x, rfl, HO7.out, CycP.one, rfl, .inl ⟨rfl, rfl, rfl⟩, by omega, (Below.refl _ w6).alloc (Nat.le_refl _) _⟩
          case round =>
            obtain ⟨Ac, mc, cc, cyc, cur, rfl, hO, hC, hcur, hAt, hmc, hBel⟩ := hrel
            obtain ⟨cb, co, x', rfl, hcb, hx', y1⟩ := (Sl.of_own hO.out).str_at (Nat.lt_succ_self mc)
            rw [hcur] at hx'
            cases hx'
            have HCU := Lib.hid hcur
            have hz7 := hBel.out.size
            have HB7 : Hid (Below w4.heap.size w4 wr) := HB6.out.trans (hBel.out.mono (by have := HB6.out.size; omega))
            have HM7 := Lib.hid (HM6.out.below hBel.out (by omega))
            have HX7 : Hid (wr.heap[w4.heap.size + 1]? = some (.cells #[.map (some w4.heap.size)] 86 (0, 0))) := (hBel.out.block _ (by omega)).trans HX6.out
            have c1 := cell_of_one HX7.out
            have HND7 := Lib.hid ((HND.out.below HB4.out hz3).below HB7.out (by omega))
            have hcs : cur.size ≤ maxLen := by
              rcases hAt.out with ⟨e, _⟩ | ⟨e1, e2⟩
              · rw [e]; exact hxs
              · rw [stOf_eq, if_neg e1] at e2
                exact HUs.out cur ((HNo.out.got.sound cur (List.mem_map_of_mem (f := Prod.fst) (noted_mem e2))).mem HU2.out)
            obtain ⟨An, cn, hgn, hSn, hcn, hcn'⟩ := HND7.out.rows cur
            have hlk := HND7.out.map.look Tryz.underlying9 Tryz.underlying81 (Tryz.zeroValue33 _) hcs
            have hlk2 : (Instr.lookup 81 (.map (some w1.heap.size)) (.string cur) false).run Tryz.prog wr = .ok (.slice An (nxT ts cur).length cn) wr := by rw [← hgn]; exact hlk
            have HSn := Lib.hid hSn
            have hnl : (nxT ts cur).length ≤ 9223372036854775807 := by have := Nat.le_trans hcn hcn'; unfold maxLen at this; omega
            clear hlk hgn hSn hcur
            gi_wp2
            gi_loopw [12, 13, 58] (fun a b i wi => ∃ (j : Nat) (f : Bool) (nx' : ByteArray), j ≤ (nxT ts cur).length ∧ a = .string nx' ∧ b = .bool f ∧ i = .int .i64 j ∧ Hid (Scan (stOf xs x) ((nxT ts cur).take j) f nx') ∧ wi = wr) (fun _ _ i _ => (nxT ts cur).length - (intOf i).toNat)
            case atStart => exact ⟨0, false, ⟨#[]⟩, Nat.zero_le _, rfl, rfl, rfl, Scan.start _, rfl⟩
            case round =>
              obtain ⟨j, f, nx', hj, rfl, rfl, rfl, hSc, rfl⟩ := hrel
              by_cases hjn : j < (nxT ts cur).length
              · obtain ⟨rb, ro, d, rfl, hrb, hd, y2⟩ := HSn.out.str_at hjn
                have hds : d.size ≤ maxLen := HUs.out d (HU.out cur d (List.mem_of_getElem? hd))
                have HTK := Lib.hid (take_snoc hd)
                have hlz : (j : Int) < ((nxT ts cur).length : Int) := by omega
                have hl1 := HM7.out.look_ok Tryz.underlying9 Tryz.underlying86 (Tryz.zeroValue3 _) hds
                rw [stG_stOf] at hl1
                clear hd
                cases hsd : stOf xs x d with
                | none =>
                  rw [hsd] at hl1
                  simp only [Option.map_none, Option.getD_none, Option.isSome_none] at hl1
                  have HS2 := Lib.hid (hSc.out.skip hsd)
                  rw [← HTK.out] at HS2
                  clear hsd hSc
                  gi_wp2
                  go_roundw
                  case rel => exact ⟨j + 1, f, nx', hjn, rfl, rfl, by go_num, HS2.out, trivial⟩
                  case measure => simp [intOf]; omega
                | some jd =>
                  rw [hsd] at hl1
                  simp only [Option.map_some, Option.getD_some, Option.isSome_some] at hl1
                  have HJD := Lib.hid hsd
                  clear hsd
                  cases f with
                  | false =>
                    have HS2 := Lib.hid (hSc.out.first HJD.out)
                    rw [← HTK.out] at HS2
                    clear hSc
                    gi_wp2
                    go_roundw
                    case rel => exact ⟨j + 1, true, d, hjn, rfl, rfl, by go_num, HS2.out, trivial⟩
                    case measure => simp [intOf]; omega
                  | true =>
                    obtain ⟨kx, hkx⟩ := hSc.out.found
                    have hns : nx'.size ≤ maxLen := HUs.out nx' (HU.out cur nx' (List.mem_of_mem_take hkx.mem))
                    have hl2 := HM7.out.look Tryz.underlying9 Tryz.underlying86 (Tryz.zeroValue3 _) hns
                    rw [stG_stOf, hkx.at_] at hl2
                    simp only [Option.map_some, Option.getD_some] at hl2
                    have HKX := Lib.hid hkx.at_
                    clear hkx
                    by_cases hlt1 : jd < kx
                    · have HS2 := Lib.hid (hSc.out.better HJD.out HKX.out (.inl hlt1))
                      rw [← HTK.out] at HS2
                      have hi1 : (jd : Int) < (kx : Int) := by omega
                      clear hSc hlt1
                      gi_wp2
                      go_roundw
                      case rel => exact ⟨j + 1, true, d, hjn, rfl, rfl, by go_num, HS2.out, trivial⟩
                      case measure => simp [intOf]; omega
                    · have hi1 : ¬ (jd : Int) < (kx : Int) := by omega
                      by_cases heq : jd = kx
                      · subst heq
                        cases hle : less d nx' with
                        | true =>
                          have HS2 := Lib.hid (hSc.out.better HJD.out HKX.out (.inr ⟨rfl, hle⟩))
                          rw [← HTK.out] at HS2
                          have hl3 : Op.bytesLess d.toList nx'.toList = true := (less_str _ _).trans hle
                          clear hSc hlt1 hle
                          gi_wp2
                          go_roundw
                          case rel => exact ⟨j + 1, true, d, hjn, rfl, rfl, by go_num, HS2.out, trivial⟩
                          case measure => simp [intOf]; omega
                        | false =>
                          have HS2 := Lib.hid (hSc.out.worse HJD.out HKX.out (.inr ⟨rfl, hle⟩))
                          rw [← HTK.out] at HS2
                          have hl3 : Op.bytesLess d.toList nx'.toList = false := (less_str _ _).trans hle
                          clear hSc hlt1 hle
                          gi_wp2
                          go_roundw
                          case rel => exact ⟨j + 1, true, nx', hjn, rfl, rfl, by go_num, HS2.out, trivial⟩
                          case measure => simp [intOf]; omega
                      · have HS2 := Lib.hid (hSc.out.worse HJD.out HKX.out (.inl (by omega)))
                        rw [← HTK.out] at HS2
                        have hi2 : ((jd : Int) == (kx : Int)) = false := by rw [beq_eq_false_iff_ne]; omega
                        clear hSc hlt1 heq
                        gi_wp2
                        go_roundw
                        case rel => exact ⟨j + 1, true, nx', hjn, rfl, rfl, by go_num, HS2.out, trivial⟩
                        case measure => simp [intOf]; omega
              · have hlz : ¬ (j : Int) < ((nxT ts cur).length : Int) := by omega
                have HS2 : Hid (Scan (stOf xs x) (nxT ts cur) f nx') := by
                  have h1 := hSc.out; rwa [List.take_of_length_le (by omega)] at h1
                have hft : f = true := by
                  cases f with
                  | true => rfl
                  | false =>
                    have hno := HS2.out.unfound
                    rcases hAt.out with ⟨e, _⟩ | ⟨e1, e2⟩
                    · obtain ⟨d, hd, jd, hjd⟩ := HNo.out.back HRX.out
                      rw [e, ] at hno
                      rw [hno d hd] at hjd; cases hjd
                    · obtain ⟨d, hd, jd, hjd, _⟩ := HNo.out.less e1 e2
                      rw [hno d hd] at hjd; cases hjd
                subst hft
                obtain ⟨kb2, hbest⟩ := HS2.out.found
                have HBE := Lib.hid hbest
                clear hSc HS2 hbest
                by_cases hnx : nx' = x
                · subst hnx
                  have HCR : Hid (CycleR ts cyc) := .inr ⟨nx', _, xs, cur, fun e => by have := HCU.out; rw [e] at this; simp at this, HXT.out, HRX.out, fun y hy hr => by
                    obtain ⟨q, hq, e⟩ := List.getElem_of_mem ((HKM.out y).2 (rch_isT hr))
                    have hqk : q < k := by
                      rcases Nat.lt_or_ge q k with h | h
                      · exact h
                      · have hX := HX.out
                        have hkl := (List.getElem?_eq_some_iff.1 hX).1
                        have hX2 := (List.getElem?_eq_some_iff.1 hX).2
                        rcases Nat.eq_or_lt_of_le h with h | h
                        · subst h
                          rw [hX2] at e; subst e
                          rw [lessB_irrefl] at hy; cases hy
                        · have := List.pairwise_iff_getElem.1 HKA.out k q hkl hq h
                          rw [e, hX2] at this
                          rw [lessB_asymm this] at hy; cases hy
                    exact hNo.out q y hqk (by rw [← e]; exact List.getElem?_eq_getElem _) hr, HNo.out, hC.out, kb2, HBE.out⟩
                  have HD8 : Hid (wr.heap[D]? = some (.deferred (some []))) := (hBel.out.block D (by have := (Array.getElem?_eq_some_iff.1 HD6.out).1; omega)).trans HD6.out
                  gi_wp2
                  refine ⟨by simp, .inl ⟨_, _, rfl, run_takeDeferred HD8.out, ?_⟩⟩
                  refine ⟨_, resultsCyc rfl, _, _, _, cyc, rfl, ?_, HCR.out, ?_, ?_⟩
                  · refine Sl.of_own (hO.out.kept (grownBy_putObj' _ _ _) ?_)
                    cases hv : (Value.slice (some ⟨cb, co, none⟩) (mc + 1) cc).ownBlock with
                    | none => exact .inl rfl
                    | some q => exact .inr (fun e => by have h1 := ownBlock_ge hO.out q hv; have h2 := (Array.getElem?_eq_some_iff.1 HD6.out).1; cases e; omega)
                  · obtain ⟨An, cn, hfn, hle, _⟩ := ownsRow_form hO.out
                    injection hfn with _ _ hfn
                    omega
                  · have h1 : Below w.heap.size w wr := (HBW.out.trans (HB4.out.mono HBW.out.size)).trans (HB7.out.mono (by have := HBW.out.size; omega))
                    exact h1.grown (grownBy_putObj' _ _ _) h1.size (fun q e => by have := HBW.out.size; cases e; omega)
                · have hns := str_ne hnx
                  have HNX := Lib.hid hnx
                  have HC2 := Lib.hid (CycP.more hC.out HBE.out hnx)
                  have HA2 : Hid (At (stOf xs x) x nx' xs.length kb2 (cyc ++ [nx'])) := .inr ⟨hnx, HBE.out.at_⟩
                  have hk1 : kb2 < gk := by
                    rcases hAt.out with ⟨_, e, _⟩ | ⟨e1, e2⟩
                    · have := HNo.out.le HBE.out.at_; omega
                    · obtain ⟨d, hd, jd, hjd, hlt'⟩ := HNo.out.less e1 e2
                      rcases HBE.out.low d hd jd hjd with h | ⟨h, _⟩ <;> omega
                  have HCL : Hid (cyc.length = mc + 1) := by have := hO.out.1; rw [strs_len] at this; show _ = _; omega
                  clear hnx
                  gi_wp2_with (gi_at_builtin; refine halt_ ?_)
                  refine unhalt ?_
                  refine wpListIn_append_sl (base := w6.heap.size) (size := 1) rfl (.tmp 102) (.tmp 104) 33 rfl 9 i0 _ 16 Tryz.underlying33 Hi.out Hz0.out Hz1.out Hz2.out rfl (by decide) (.slice (some ⟨cb, co, none⟩) (mc + 1) cc) (mc + 1) (strs cyc) rfl ?own (wr.heap.size + 1) _ 1 _ [.string nx'] rfl ?nw (by simp [Value.oneCell']) ?l1 ?l2 ?l3 ?_
                  case own => exact hO.out.kept (World.grownBy_alloc wr _ none) (by cases hv : (Value.slice (some ⟨cb, co, none⟩) (mc + 1) cc).ownBlock with | none => exact .inl rfl | some k => exact .inr (by simp))
                  case nw => exact ⟨rfl, fun _ => ⟨wr.heap.size, 0, rfl, Nat.lt_succ_self _, fun j u hu => by have := new_cell wr 9 nx' j u hu; rwa [Addr.add_lit] at this⟩⟩
                  case l1 => unfold maxLen; omega
                  case l2 => omega
                  case l3 => simp; omega
                  intro A3 c3 w8 ho3 hg3 hc3 hc4
                  have HO3 : Hid (w8.ownsRow w6.heap.size 9 1 (.slice A3 (mc + 1 + 1) c3) (mc + 1 + 1) (strs (cyc ++ [nx']))) := by
                    show World.ownsRow _ _ _ _ _ _ _
                    have e : strs (cyc ++ [nx']) = strs cyc ++ [.string nx'] := by simp [strs]
                    rw [e]; exact ho3
                  have HB8 : Hid (Below w6.heap.size w6 w8) := (hBel.out.alloc (by omega) _).grown hg3 (by simp; omega) (fun k hk => ownBlock_ge hO.out k hk)
                  have HL8 : Hid ((cyc ++ [nx'])[mc + 1]? = some nx') := by
                    show _ = _
                    rw [← HCL.out]; simp
                  clear ho3 hg3 hlk2 c1 y1
                  gi_wp2
                  gi_roundg kb2
                  case rel => exact ⟨A3, mc + 1, c3, cyc ++ [nx'], nx', rfl, HO3.out, HC2.out, HL8.out, HA2.out, by omega, HB8.out⟩
                  case measure => exact hk1
    · have hlz : ¬ (k : Int) < (kn : Int) := by omega
      have HF : Hid (∀ s, ¬ Rch (nxT ts) s s) := fun s hs => by
        obtain ⟨j, hj, e⟩ := List.getElem_of_mem ((HKM.out s).2 (rch_isT hs))
        exact hNo.out j s (by have := HKL.out; omega) (by rw [← e]; exact List.getElem?_eq_getElem _) hs
      clear hNo
      gi_wp2
      refine ⟨_, resultsCyc rfl, none, 0, 0, [], rfl, Sl.nil _ _ _ _, .inl ⟨rfl, HF.out⟩, Nat.le_refl _, HBW.out.trans (hBr.out.mono HBW.out.size)⟩
theorem cycle_any (A : Option Addr) (n c B M : Nat) (ts : List Tg) (w : World) (h0 : Sl w B 4 A n (flat tgC ts)) (hok : ∀ t ∈ ts, TgOk w B t) (hB : B ≤ w.heap.size) (hn : n ≤ 1000) (hdm : ∀ t ∈ ts, t.deps.length ≤ M) (hM1 : M ≤ 1000) :
    Calls Tryz.prog 20 #[.slice A n c] w (CycEnd ts w)  :=
  (cycle_any2 A n c B M ts w h0 hok hB hn hdm hM1).mono fun _ _ h => h.one
end Go.Proofs.YtddlohbhchjjhaaGreatDoor
