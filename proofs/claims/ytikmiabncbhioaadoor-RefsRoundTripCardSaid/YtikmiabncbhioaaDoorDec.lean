/-
  refs.Decode.
-/
import Derived.Test.YtikmiabncbhioaaDoorTake
import Derived.LoopN
namespace Go.Proofs.YtikmiabncbhioaaDoor
open Go.RowKit

def pt1 (q : ByteArray) : ByteArray := q.extract (getT (toL q)).2.1 q.size
def pt2 (q : ByteArray) : ByteArray := q.extract (getDg (toL q)).2.1 q.size
theorem rd_parts (q : ByteArray) : rdU (toL q) = if (((false || (getT (toL q)).2.2 != 0) || (getDg (toL (pt1 q))).2.2 != 0) || (getDg (toL (pt2 (pt1 q)))).2.2 != 0) = true then none
    else some ((ofL (getT (toL q)).1, (getDg (toL (pt1 q))).1, (getDg (toL (pt2 (pt1 q)))).1), toL (pt2 (pt2 (pt1 q)))) := by
  have e1 : toL (pt1 q) = (toL q).drop (getT (toL q)).2.1 := toL_from _ _
  unfold rdU
  by_cases h1 : (getT (toL q)).2.2 = 0
  · by_cases h2 : (toL (pt1 q)).length < 16
    · have g2 : getDg (toL (pt1 q)) = ((0, 0), 0, 13) := by unfold getDg; rw [if_pos h2]
      rw [if_pos (.inr (by rw [e1, List.length_drop] at h2; omega)), if_pos (by rw [g2]; simp)]
    · have g2 : getDg (toL (pt1 q)) = (dg (toL (pt1 q)), 16, 0) := by unfold getDg; rw [if_neg h2]
      have e2 : toL (pt2 (pt1 q)) = (toL q).drop ((getT (toL q)).2.1 + 16) := by
        rw [pt2, toL_from, g2, e1, List.drop_drop]
      by_cases h3 : (toL (pt2 (pt1 q))).length < 16
      · have g3 : getDg (toL (pt2 (pt1 q))) = ((0, 0), 0, 13) := by unfold getDg; rw [if_pos h3]
        rw [if_pos (.inr (by rw [e2, List.length_drop] at h3; omega)), if_pos (by rw [g3]; simp)]
      · have g3 : getDg (toL (pt2 (pt1 q))) = (dg (toL (pt2 (pt1 q))), 16, 0) := by unfold getDg; rw [if_neg h3]
        have e3 : toL (pt2 (pt2 (pt1 q))) = (toL q).drop ((getT (toL q)).2.1 + 32) := by
          rw [show pt2 (pt2 (pt1 q)) = (pt2 (pt1 q)).extract (getDg (toL (pt2 (pt1 q)))).2.1 (pt2 (pt1 q)).size from rfl, toL_from, g3, e2, List.drop_drop]; rfl
        rw [if_neg (by rw [e2, List.length_drop] at h3; simp [h1]; omega), if_neg (by rw [g2, g3]; simp [h1]), g2, g3, e1, e2, e3]
  · rw [if_pos (.inl h1), if_pos (by simp [h1])]
theorem fin_step (k : Nat) (l : Bytes) (acc : List Upd) : fin acc (rdL (k + 1) l) = match rdU l with | none => ([], 13) | some (u, r) => if properE u ≠ 0 then ([], 13) else fin (acc ++ [u]) (rdL k r) := by
  rw [rdL]
  cases rdU l with
  | none => rfl
  | some p =>
    obtain ⟨u, r⟩ := p
    simp only
    cases rdL k r with
    | none => simp [fin]
    | some p2 =>
      obtain ⟨us, q⟩ := p2
      simp only [fin, errsE]
      by_cases hp : properE u = 0
      · simp [hp]
      · simp [hp]
theorem pt_size (q : ByteArray) (h : q.size ≤ 1000000) : (pt1 q).size ≤ 1000000 ∧ (pt2 q).size ≤ 1000000 := by
  unfold pt1 pt2
  rw [ByteArray.size_extract, ByteArray.size_extract]
  omega
theorem Apd.gb {p : Nat → Prop} {w w' : World} {base size n c : Nat} {e : TypeId} {A : Option Addr} {xs : List Value} (h : Apd w base e size A n c xs) (hg : Gb p w w') (hp : ∀ k, base ≤ k → ¬ p k) : Apd w' base e size A n c xs := by
  rcases h with h | h
  · refine .inl ⟨h.1, ?_⟩
    rcases h.2 with h0 | ⟨g, cap, cur, hv, h1, hh, h2⟩
    · exact .inl h0
    · exact .inr ⟨g, cap, cur, hv, h1, (hg.block g (Array.getElem?_eq_some_iff.1 hh).1 (hp g h1)).trans hh, h2⟩
  · exact .inr h
theorem Gb.then2 {r u : Nat} {a b c : World} (h : Gb (fun x => x = r) a b) (g : Gb (fun x => x = r ∨ x = u) b c) (hu : a.heap.size ≤ u) : Gb (fun x => x = r) a c :=
  ⟨g.os.trans h.os, g.tape.trans h.tape, g.output.trans h.output, Nat.le_trans h.size g.size, fun i hi hn => (g.block i (Nat.lt_of_lt_of_le hi h.size) (by rintro (e | e); exact hn e; omega)).trans (h.block i hi hn)⟩
theorem getT_len (l : Bytes) : (getT l).1.length ≤ l.length := by
  unfold getT
  split
  · simp
  · split
    · simp
    · split
      · simp
      · simp only [List.length_take, List.length_drop]; omega
def invD (s : ByteArray) (n j : Nat) (q : ByteArray) (bad : Bool) (acc : List Upd) : Prop := decR (toL s) = if bad = true then ([], 13) else fin acc (rdL (n - j) (toL q))
def okU (u : Upd) : Prop := u.1.size ≤ maxLen

set_option maxRecDepth 100000 in
set_option maxHeartbeats 8000000 in
theorem decode_any (s : ByteArray) (w : World) (hs : s.size ≤ 1000000) : Calls Tryd.prog 29 #[.string s] w (RetU (decR (toL s)) w) := by
  have HR : Hid (∀ r, decR (toL s) = r → ∀ e w', RetU r w e w' → RetU (decR (toL s)) w e w') := fun r h e w' hh => by rw [h]; exact hh
  have HD : Hid (decR (toL s) = if (getI (toL s)).2.2 ≠ 0 ∨ 1000 < (getI (toL s)).1 then ([], 13) else fin [] (rdL (getI (toL s)).1 ((toL s).drop (getI (toL s)).2.1))) := rfl
  obtain ⟨i0, hi, hz0, hz1, hz2⟩ := info_parts info30
  have Hi := Lib.hid hi; have Hz0 := Lib.hid hz0; have Hz1 := Lib.hid hz1; have Hz2 := Lib.hid hz2
  clear hi hz0 hz1 hz2
  have K0 : Hid (Bk ((w.alloc (.cells #[.string s, .bool false] 76)).alloc (.cells #[.func (.func 49) #[] #[], .func (.func 52) #[] #[], .func (.func 55) #[] #[]] 80)) w.heap.size 76 #[.string s, .bool false]) := (Bk.new w 76 _).alloc _
  have P0 : Hid (Bk ((w.alloc (.cells #[.string s, .bool false] 76)).alloc (.cells #[.func (.func 49) #[] #[], .func (.func 52) #[] #[], .func (.func 55) #[] #[]] 80)) (w.heap.size + 1) 80 #[.func (.func 49) #[] #[], .func (.func 52) #[] #[], .func (.func 55) #[] #[]]) := by
    have := Bk.new (w.alloc (.cells #[.string s, .bool false] 76)) 80 #[.func (.func 49) #[] #[], .func (.func 52) #[] #[], .func (.func 55) #[] #[]]
    rw [World.size_alloc] at this
    exact this
  have HB0 : Hid (Below w.heap.size w ((w.alloc (.cells #[.string s, .bool false] 76)).alloc (.cells #[.func (.func 49) #[] #[], .func (.func 52) #[] #[], .func (.func 55) #[] #[]] 80))) := ((Below.refl _ w).alloc (Nat.le_refl _) _).alloc (by simp) _
  go_enter Tryd.func29, Tryd.ntmps29
  go_wp2_with fail
  refine (takeInt_any w.heap.size s false _ K0.out).mono ?_
  obtain ⟨q0, hq0⟩ : ∃ q, s.extract (getI (toL s)).2.1 s.size = q := ⟨_, rfl⟩
  rw [hq0]
  have HQ0 : Hid (toL q0 = (toL s).drop (getI (toL s)).2.1) := by show _ = _; rw [← hq0]; exact toL_from _ _
  have hq0s : q0.size ≤ 1000000 := by rw [← hq0, ByteArray.size_extract]; omega
  have hgm := getI_max (toL s)
  clear hq0
  generalize getI (toL s) = g at *
  obtain ⟨n, k, e⟩ := g
  simp only at HD HQ0 hgm ⊢
  rintro e' w1 ⟨rfl, k1, g1⟩
  have hz1 : w.heap.size + 2 ≤ w1.heap.size := by have := g1.size; simp at this; omega
  have K1 := Lib.hid k1
  have P1 := Lib.hid (g1.bk P0.out (by simp))
  have HB1 := Lib.hid (HB0.out.trans (g1.below (B := w.heap.size) (by simp; omega) (fun k hk e => by omega)))
  obtain ⟨x0, x1, f0, f1⟩ := k1.agg
  clear k1 g1
  by_cases he : e = 0
  · subst he
    by_cases hn : 1000 < n
    · have hni : (1000 : Int) < (n : Int) := by omega
      have hn0 : (0 : Int) < (n : Int) := by omega
      have hfin : Hid (decR (toL s) = ([], 13)) := by show _ = _; rw [HD.out, if_pos (.inr hn)]
      have hr1 := K1.out.set 1 (.bool true)
      have y1 := hr1.cell 1
      simp at y1
      clear hr1
      go_wp2
      refine wp_loop_rounds 1 ?_
      rw [rounds_succ]
      go_wp2
      go_ret2
      exact retU_none hfin.out (HB1.out.setCell (p := ⟨w.heap.size, 1, none⟩) (Nat.le_refl _) _)
    · have hni : ¬ (1000 : Int) < (n : Int) := by omega
      have hnd : decide ((1000 : Int) < (n : Int)) = false := by simpa using hni
      have HI0 : Hid (invD s n 0 q0 false []) := by
        show decR (toL s) = _
        rw [HD.out, HQ0.out, if_neg (by simp; omega)]
        rfl
      have KB : Hid (Bk (w1.setCell ⟨w.heap.size, 1, none⟩ (.bool false)) w.heap.size 76 #[.string q0, .bool false]) := by
        show Bk _ _ _ _
        have := K1.out.set 1 (.bool false)
        simpa using this
      have PB : Hid (Bk (w1.setCell ⟨w.heap.size, 1, none⟩ (.bool false)) (w.heap.size + 1) 80 #[.func (.func 49) #[] #[], .func (.func 52) #[] #[], .func (.func 55) #[] #[]]) := P1.out.far (p := ⟨w.heap.size, 1, none⟩) (by simp) _
      have BB : Hid (Below w.heap.size w (w1.setCell ⟨w.heap.size, 1, none⟩ (.bool false))) := HB1.out.setCell (p := ⟨w.heap.size, 1, none⟩) (Nat.le_refl _) _
      have hzb : w.heap.size + 2 ≤ (w1.setCell ⟨w.heap.size, 1, none⟩ (.bool false)).heap.size := by simp; omega
      clear HD HQ0 K1 P1
      go_wp2
      go_loopw [7, 8] (fun v i wr => ∃ (j : Nat) (A : Option Addr) (c : Nat) (q : ByteArray) (bad : Bool) (acc : List Upd), j ≤ n ∧ i = .int .i64 j ∧ v = .slice A j c ∧ q.size ≤ 1000000 ∧ Hid (Bk wr w.heap.size 76 #[.string q, .bool bad]) ∧ Hid (Bk wr (w.heap.size + 1) 80 #[.func (.func 49) #[] #[], .func (.func 52) #[] #[], .func (.func 55) #[] #[]]) ∧
        Hid (Apd wr (w.heap.size + 2) 30 5 A j c (flat upC acc)) ∧ Hid (invD s n j q bad acc) ∧ Hid (Below w.heap.size w wr) ∧ w.heap.size + 2 ≤ wr.heap.size) (fun _ i _ => n - (intOf i).toNat)
      case atStart => exact ⟨0, none, 0, q0, false, [], Nat.zero_le _, rfl, rfl, hq0s, KB.out, PB.out, .inr ⟨rfl, rfl, rfl⟩, HI0.out, BB.out, hzb⟩
      case round =>
        clear KB PB BB hzb HI0
        obtain ⟨j, A, c, q, bad, acc, hj, rfl, rfl, hqs, KR, PR, hA, hI, hBel, hwz⟩ := hrel
        clear hni hnd
        by_cases hlt : j < n
        · have hlz : (j : Int) < (n : Int) := by omega
          cases bad with
          | true =>
            have hfin : Hid (decR (toL s) = ([], 13)) := hI.out
            obtain ⟨x0, x1, _, _⟩ := KR.out.agg
            go_wp2
            go_ret2
            exact retU_none hfin.out hBel.out
          | false =>
            have HI2 : Hid (decR (toL s) = match rdU (toL q) with | none => ([], 13) | some (u, r) => if properE u ≠ 0 then ([], 13) else fin (acc ++ [u]) (rdL (n - (j + 1)) r)) := by
              show _ = _
              have h1 : decR (toL s) = fin acc (rdL (n - j) (toL q)) := hI.out
              rw [h1, show n - j = n - (j + 1) + 1 by omega, fin_step]
            have HRP := Lib.hid (rd_parts q)
            have hp1 := (pt_size q hqs).1
            have hp2 := (pt_size (pt1 q) hp1).2
            have hp3 := (pt_size (pt2 (pt1 q)) hp2).2
            have KR1 := Lib.hid (KR.out.alloc (.cells #[.string ⟨#[]⟩, .int .u64 0, .int .u64 0, .int .u64 0, .int .u64 0] 30))
            have PR1 := Lib.hid (PR.out.alloc (.cells #[.string ⟨#[]⟩, .int .u64 0, .int .u64 0, .int .u64 0, .int .u64 0] 30))
            have UR1 := Lib.hid (Bk.new wr 30 #[.string ⟨#[]⟩, .int .u64 0, .int .u64 0, .int .u64 0, .int .u64 0])
            have GR1 : Hid (Gb (fun g => g = w.heap.size) wr (wr.alloc (.cells #[.string ⟨#[]⟩, .int .u64 0, .int .u64 0, .int .u64 0, .int .u64 0] 30))) := Gb.of_below ((Below.refl _ wr).alloc (Nat.le_refl _) _)
            obtain ⟨x0, x1, _, _⟩ := KR.out.agg
            have y0 := PR1.out.cell 0; have y1 := PR1.out.cell 1; have y2 := PR1.out.cell 2
            simp at y0 y1 y2
            go_wp2
            refine wp_loop_rounds 4 ?_
            rw [rounds_succ]
            go_wp2_with fail
            have hrne : w.heap.size ≠ wr.heap.size := by omega
            have htsz : (ofL (getT (toL q)).1).size ≤ 1000000 := by rw [size_ofL]; have := getT_len (toL q); rw [← size_toL] at this; omega
            refine (part1_any w.heap.size wr.heap.size q false ⟨#[]⟩ 0 0 0 0 _ KR1.out UR1.out hqs hrne).mono ?_
            rw [show q.extract (getT (toL q)).2.1 q.size = pt1 q from rfl]
            generalize pt1 q = q1 at *
            generalize (false || (getT (toL q)).2.2 != 0) = b1 at *
            generalize ofL (getT (toL q)).1 = ts at *
            rintro e2 w2 ⟨rfl, k2, u2, g2⟩
            have K2 := Lib.hid k2; have U2 := Lib.hid u2; have P2 := Lib.hid (g2.bk PR1.out (by intro e; omega))
            have G2 := Lib.hid (GR1.out.then2 g2 (Nat.le_refl _))
            have hz2 : wr.heap.size + 1 ≤ w2.heap.size := by have := g2.size; simp at this; omega
            clear k2 u2 g2 y0 y1 y2 x0 x1
            have y0 := P2.out.cell 0; have y1 := P2.out.cell 1; have y2 := P2.out.cell 2
            simp at y0 y1 y2
            go_wp2
            rw [rounds_succ]
            go_wp2_with fail
            refine (part2_any w.heap.size wr.heap.size q1 b1 ts 0 0 0 0 _ K2.out U2.out hp1 hrne).mono ?_
            rw [show q1.extract (getDg (toL q1)).2.1 q1.size = pt2 q1 from rfl]
            generalize pt2 q1 = q2 at *
            generalize (b1 || (getDg (toL q1)).2.2 != 0) = b2 at *
            generalize (getDg (toL q1)).1 = dd1 at *
            obtain ⟨a0, a1⟩ := dd1
            rintro e3 w3 ⟨rfl, k3, u3, g3⟩
            simp only at u3
            have K3 := Lib.hid k3; have U3 := Lib.hid u3; have P3 := Lib.hid (g3.bk P2.out (by intro e; omega))
            have G3 := Lib.hid (G2.out.then2 g3 (Nat.le_refl _))
            have hz3 : w2.heap.size ≤ w3.heap.size := g3.size
            clear k3 u3 g3 y0 y1 y2
            have y0 := P3.out.cell 0; have y1 := P3.out.cell 1; have y2 := P3.out.cell 2
            simp at y0 y1 y2
            go_wp2
            rw [rounds_succ]
            go_wp2_with fail
            refine (part3_any w.heap.size wr.heap.size q2 b2 ts a0 a1 0 0 _ K3.out U3.out hp2 hrne).mono ?_
            rw [show q2.extract (getDg (toL q2)).2.1 q2.size = pt2 q2 from rfl]
            generalize pt2 q2 = q3 at *
            generalize (b2 || (getDg (toL q2)).2.2 != 0) = b3 at *
            generalize (getDg (toL q2)).1 = dd2 at *
            obtain ⟨c0, c1⟩ := dd2
            rintro e4 w4 ⟨rfl, k4, u4, g4⟩
            simp only at u4
            have K4 := Lib.hid k4; have U4 := Lib.hid u4; have P4 := Lib.hid (g4.bk P3.out (by intro e; omega))
            have G4 := Lib.hid (G3.out.then2 g4 (Nat.le_refl _))
            have hz4 : w3.heap.size ≤ w4.heap.size := g4.size
            obtain ⟨x0, x1, f0, f1⟩ := k4.agg
            have v0 := u4.cell 0; have v1 := u4.cell 1; have v2 := u4.cell 2; have v3 := u4.cell 3; have v4 := u4.cell 4
            simp at v0 v1 v2 v3 v4
            clear k4 u4 g4 y0 y1 y2 K2 K3 U2 U3 P2 P3 G2 G3
            go_wp2
            rw [rounds_succ]
            cases b3 with
            | true =>
              have HIN : Hid (invD s n (j + 1) q3 true (acc ++ [(ts, (a0, a1), (c0, c1))])) := by
                show decR (toL s) = _
                rw [HI2.out, HRP.out]; rfl
              have KB : Hid (Bk (w4.setCell ⟨w.heap.size, 1, none⟩ (.bool true)) w.heap.size 76 #[.string q3, .bool true]) := by
                show Bk _ _ _ _
                have := K4.out.set 1 (.bool true)
                simpa using this
              have PB : Hid (Bk (w4.setCell ⟨w.heap.size, 1, none⟩ (.bool true)) (w.heap.size + 1) 80 #[.func (.func 49) #[] #[], .func (.func 52) #[] #[], .func (.func 55) #[] #[]]) := P4.out.far (p := ⟨w.heap.size, 1, none⟩) (by simp) _
              have HG : Hid (Gb (fun x => x = w.heap.size) wr (w4.setCell ⟨w.heap.size, 1, none⟩ (.bool true))) := G4.out.trans (Gb.set (p := fun x => x = w.heap.size) (x := w.heap.size) rfl 1 _)
              have UB := U4.out.far (p := ⟨w.heap.size, 1, none⟩) hrne.symm (.bool true)
              have t0 := UB.cell 0; have t1 := UB.cell 1; have t2 := UB.cell 2; have t3 := UB.cell 3; have t4 := UB.cell 4
              simp at t0 t1 t2 t3 t4
              clear UB
              go_wp2_with (at_builtin; refine halt_ ?_)
              refine unhalt ?_
              refine wpList_append_apd (base := w.heap.size + 2) _ rfl (.tmp 63) (.tmp 65) 23 rfl 30 i0 _ 48 Tryd.underlying23 Hi.out Hz0.out Hz1.out Hz2.out rfl (by decide) A j c (flat upC acc) rfl ?ap (w4.heap.size + 1) _ 1 _ (flat upC [(ts, (a0, a1), (c0, c1))]) rfl ?sl (oneCells_up _) (by unfold maxLen; omega) (by omega) (by simp; omega) ?_
              case ap => exact (hA.out.gb HG.out (fun k hk e => by omega)).below ((Below.refl _ _).alloc (Nat.le_refl _) _)
              case sl =>
                have := Sl.new (w4.setCell ⟨w.heap.size, 1, none⟩ (.bool true)) 30 (flat upC [(ts, (a0, a1), (c0, c1))]) 1 (size := 5) rfl
                have e : (w4.setCell ⟨w.heap.size, 1, none⟩ (.bool true)).heap.size = w4.heap.size := by simp
                rw [e] at this
                exact this
              intro A7 c7 w7 a7 hb7 _ _ _
              rw [← flat_append] at a7
              have AP7 := Lib.hid a7
              have hz7 : w.heap.size + 2 ≤ w7.heap.size := by have := hb7.size; simp at this; omega
              have KB7 := Lib.hid ((KB.out.alloc (.cells #[.string ts, .int .u64 a0, .int .u64 a1, .int .u64 c0, .int .u64 c1] 30)).below hb7 (by omega))
              have PB7 := Lib.hid ((PB.out.alloc (.cells #[.string ts, .int .u64 a0, .int .u64 a1, .int .u64 c0, .int .u64 c1] 30)).below hb7 (by omega))
              have HB7 : Hid (Below w.heap.size w w7) := ((hBel.out.trans (HG.out.below (B := w.heap.size) (by omega) (fun k hk e => by omega))).alloc (by simp; omega) _).trans (hb7.mono (by omega))
              clear a7 hb7
              go_wp2
              go_roundw
              case rel => exact ⟨j + 1, A7, c7, q3, _, acc ++ [(ts, (a0, a1), (c0, c1))], by omega, by go_num, rfl, hp3, KB7.out, PB7.out, AP7.out, HIN.out, HB7.out, hz7⟩
              case measure => simp [intOf]; omega
            | false =>
              have HI3 : Hid (decR (toL s) = if properE (ts, (a0, a1), (c0, c1)) ≠ 0 then ([], 13) else fin (acc ++ [(ts, (a0, a1), (c0, c1))]) (rdL (n - (j + 1)) (toL q3))) := by
                show _ = _
                rw [HI2.out, HRP.out]; rfl
              go_wp2_with fail
              refine (proper_any (ts, (a0, a1), (c0, c1)) _ (by show ts.size ≤ maxLen; unfold maxLen; omega)).mono ?_
              generalize properE (ts, (a0, a1), (c0, c1)) = pe at *
              rintro e5 w5 ⟨rfl, hb5⟩
              have hz5 : w4.heap.size ≤ w5.heap.size := hb5.size
              have K5 := K4.out.below hb5 (by omega)
              have U5 := U4.out.below hb5 (by omega)
              have P5 := P4.out.below hb5 (by omega)
              have G5 := G4.out.trans (Gb.of_below hb5)
              obtain ⟨pb, hpb⟩ : ∃ pb, (pe != 0) = pb := ⟨_, rfl⟩
              have HIN : Hid (invD s n (j + 1) q3 pb (acc ++ [(ts, (a0, a1), (c0, c1))])) := by
                show decR (toL s) = _
                rw [HI3.out, ← hpb]
                by_cases hp : pe = 0
                · rw [if_neg (by simp [hp]), if_neg (by simp [hp])]
                · rw [if_pos hp, if_pos (by simp [hp])]
              have KB : Hid (Bk (w5.setCell ⟨w.heap.size, 1, none⟩ (.bool pb)) w.heap.size 76 #[.string q3, .bool pb]) := by
                show Bk _ _ _ _
                have := K5.set 1 (.bool pb)
                simpa using this
              have PB : Hid (Bk (w5.setCell ⟨w.heap.size, 1, none⟩ (.bool pb)) (w.heap.size + 1) 80 #[.func (.func 49) #[] #[], .func (.func 52) #[] #[], .func (.func 55) #[] #[]]) := P5.far (p := ⟨w.heap.size, 1, none⟩) (by simp) _
              have HG : Hid (Gb (fun x => x = w.heap.size) wr (w5.setCell ⟨w.heap.size, 1, none⟩ (.bool pb))) := G5.trans (Gb.set (p := fun x => x = w.heap.size) (x := w.heap.size) rfl 1 _)
              obtain ⟨z0, z1, s0, s1⟩ := K5.agg
              have UB := U5.far (p := ⟨w.heap.size, 1, none⟩) hrne.symm (.bool pb)
              have t0 := UB.cell 0; have t1 := UB.cell 1; have t2 := UB.cell 2; have t3 := UB.cell 3; have t4 := UB.cell 4
              simp at t0 t1 t2 t3 t4
              clear UB K5 U5 P5 G5 hb5 x0 x1 f0 f1 v0 v1 v2 v3 v4 HI3
              go_wp2_with (at_builtin; refine halt_ ?_)
              refine unhalt ?_
              refine wpList_append_apd (base := w.heap.size + 2) _ rfl (.tmp 63) (.tmp 65) 23 rfl 30 i0 _ 48 Tryd.underlying23 Hi.out Hz0.out Hz1.out Hz2.out rfl (by decide) A j c (flat upC acc) rfl ?ap (w5.heap.size + 1) _ 1 _ (flat upC [(ts, (a0, a1), (c0, c1))]) rfl ?sl (oneCells_up _) (by unfold maxLen; omega) (by omega) (by simp; omega) ?_
              case ap => exact (hA.out.gb HG.out (fun k hk e => by omega)).below ((Below.refl _ _).alloc (Nat.le_refl _) _)
              case sl =>
                have := Sl.new (w5.setCell ⟨w.heap.size, 1, none⟩ (.bool pb)) 30 (flat upC [(ts, (a0, a1), (c0, c1))]) 1 (size := 5) rfl
                have e : (w5.setCell ⟨w.heap.size, 1, none⟩ (.bool pb)).heap.size = w5.heap.size := by simp
                rw [e] at this
                exact this
              intro A7 c7 w7 a7 hb7 _ _ _
              rw [← flat_append] at a7
              have AP7 := Lib.hid a7
              have hz7 : w.heap.size + 2 ≤ w7.heap.size := by have := hb7.size; simp at this; omega
              have KB7 := Lib.hid ((KB.out.alloc (.cells #[.string ts, .int .u64 a0, .int .u64 a1, .int .u64 c0, .int .u64 c1] 30)).below hb7 (by omega))
              have PB7 := Lib.hid ((PB.out.alloc (.cells #[.string ts, .int .u64 a0, .int .u64 a1, .int .u64 c0, .int .u64 c1] 30)).below hb7 (by omega))
              have HB7 : Hid (Below w.heap.size w w7) := ((hBel.out.trans (HG.out.below (B := w.heap.size) (by omega) (fun k hk e => by omega))).alloc (by simp; omega) _).trans (hb7.mono (by omega))
              clear a7 hb7
              go_wp2
              go_roundw
              case rel => exact ⟨j + 1, A7, c7, q3, _, acc ++ [(ts, (a0, a1), (c0, c1))], by omega, by go_num, rfl, hp3, KB7.out, PB7.out, AP7.out, HIN.out, HB7.out, hz7⟩
              case measure => simp [intOf]; omega
        · have hlz : ¬ (j : Int) < (n : Int) := by omega
          obtain ⟨x0, x1, _, _⟩ := KR.out.agg
          cases bad with
          | true =>
            have hfin : Hid (decR (toL s) = ([], 13)) := hI.out
            go_wp2
            go_ret2
            exact retU_none hfin.out hBel.out
          | false =>
            have hI2 : decR (toL s) = if toL q = [] ∧ errsE [] = 0 then (acc ++ [], 0) else ([], 13) := by
              have h1 : decR (toL s) = fin acc (rdL (n - j) (toL q)) := hI.out
              rw [h1, show n - j = 0 by omega, rdL, fin]
            by_cases hqe : toL q = []
            · have hfin : Hid (decR (toL s) = (acc, 0)) := by show _ = _; rw [hI2, if_pos ⟨hqe, rfl⟩, List.append_nil]
              have t1 : q.toList = [] := by rw [ByteArray.toList_eq]; exact hqe
              have t2 : (q.toList == ([] : List UInt8)) = true := by rw [t1]; rfl
              clear hI2 hqe
              go_wp2
              go_ret2
              exact HR.out _ hfin.out _ _ ⟨A, j, c, rfl, hA.out.sl, hA.out.cap.1, hA.out.cap.2, hBel.out⟩
            · have hfin : Hid (decR (toL s) = ([], 13)) := by show _ = _; rw [hI2, if_neg (by simp [hqe])]
              have t1 : (!q.toList.isEmpty) = true := by
                rw [ByteArray.toList_eq]
                simp only [Bool.not_eq_true', List.isEmpty_eq_false_iff]; exact hqe
              have t2 : (q.toList == ([] : List UInt8)) = false := by rw [beq_eq_false_iff_ne, ByteArray.toList_eq]; exact hqe
              have t3 : ¬ q.toList = [] := by rw [ByteArray.toList_eq]; exact hqe
              clear hI2 hqe
              go_wp2
              go_ret2
              exact retU_none hfin.out hBel.out
  · have hne : (e != 0) = true := by rw [bne_iff_ne]; exact he
    have hfin : Hid (decR (toL s) = ([], 13)) := by show _ = _; rw [HD.out, if_pos (.inl he)]
    have hr1 := K1.out.set 1 (.bool true)
    have y1 := hr1.cell 1
    simp at y1
    clear hr1 he
    by_cases hn0 : (0 : Int) < (n : Int)
    all_goals
      go_wp2
      refine wp_loop_rounds 1 ?_
      rw [rounds_succ]
      go_wp2
      go_ret2
      exact retU_none hfin.out (HB1.out.setCell (p := ⟨w.heap.size, 1, none⟩) (Nat.le_refl _) _)
end Go.Proofs.YtikmiabncbhioaaDoor
