/-
  Lemmas: The reference's reader of build files: a list of elements. The reference's target names.
-/
import Derived.Deep.QuietTactic
import Derived.BigQuiet
import Derived.RegionTactic
import Derived.BigRegion
import Derived.Deep.CutRange
import Derived.Test.YtddlohbhchjjhaaGreatDoorU12

namespace Go.Proofs.YtddlohbhchjjhaaGreatDoor
open Go.RowKit Go.Shelf

def LInv (v st : ByteArray → Bool) (ws : List Wd) (first : Bool) (l : List ByteArray) (t : Rt) : Prop :=
  (t.2 = false ∧ (first = true ∨ headR st t.1 = false) ∧ lsR v st ws = (l ++ (lsR v st t.1).1, (lsR v st t.1).2)) ∨ (t.2 = false ∧ first = false ∧ headR st t.1 = true ∧ lsR v st ws = (l, t)) ∨ (t.2 = true ∧ first = false ∧ lsR v st ws = (l, t))
theorem LInv.start (v st : ByteArray → Bool) (ws : List Wd) : LInv v st ws true [] (ws, false) := .inl ⟨rfl, .inl rfl, rfl⟩
theorem LInv.step {v st : ByteArray → Bool} (h0 : v ⟨#[]⟩ = false) {ws us : List Wd} {l : List ByteArray} (h : lsR v st ws = (l ++ (lsR v st us).1, (lsR v st us).2)) : LInv v st ws false (l ++ [nxtW us]) (nxR (us, false) (v (nxtW us))) := by
  cases us with
  | nil =>
    rw [show nxtW [] = ⟨#[]⟩ from rfl, h0, show nxR ([], false) false = ([], true) from if_pos (.inr (.inl rfl))]
    exact .inr (.inr ⟨rfl, rfl, h⟩)
  | cons x r =>
    show LInv v st ws false (l ++ [x.1]) (nxR (x :: r, false) (v x.1))
    cases hv : v x.1 with
    | false =>
      rw [show nxR (x :: r, false) false = (x :: r, true) from if_pos (.inr (.inl rfl))]
      refine .inr (.inr ⟨rfl, rfl, ?_⟩)
      have e : lsR v st (x :: r) = ([x.1], (x :: r, true)) := if_neg (by rw [hv]; simp)
      rw [e] at h; exact h
    | true =>
      rw [show nxR (x :: r, false) true = (r, false) from if_neg (by simp)]
      have e : lsR v st (x :: r) = if headR st r = true then ([x.1], (r, false)) else (x.1 :: (lsR v st r).1, (lsR v st r).2) := if_pos hv
      cases hh : headR st r with
      | true =>
        rw [e, if_pos hh] at h
        exact .inr (.inl ⟨rfl, rfl, hh, h⟩)
      | false =>
        rw [e, if_neg (by rw [hh]; simp)] at h
        refine .inl ⟨rfl, .inr hh, ?_⟩
        rw [h]; simp
theorem res_tmpT {fn : Func} {i c : Tmp} (h : fn.results = #[.tmp i, .cell c 181]) {w : World} {a : Array Value} {b : Nat} {x y v : Value} (hv : a[i]?.getD undef = v) (ha : a[c]?.getD undef = .pointer (some ⟨b, 0, none⟩)) (hk : Bk w b 181 #[x, y]) :
    (results fn a).run Tryz.prog w = .ok (.tuple #[v, .agg #[x, y]]) w := by
  have h0 := hk.cell 0; have h1 := hk.cell 1
  simp at h0 h1
  simp [results, h, ha, hv, go_sem, h0, h1]
theorem lsR_ne (v st : ByteArray → Bool) : ∀ ws : List Wd, (lsR v st ws).1 ≠ []
  | [] => by simp [lsR]
  | x :: ws => by
    simp only [lsR]
    split
    · split <;> simp
    · simp
theorem Apd.owns {w : World} {base n c : Nat} {e : TypeId} {A : Option Addr} {l : List ByteArray} (h : Apd w base e 1 A n c (strs l)) (hl : l ≠ []) : w.ownsRow base e 1 (.slice A n c) n (strs l) := by
  rcases h with h | ⟨_, _, h⟩
  · exact h
  · cases l with
    | nil => exact absurd rfl hl
    | cons x r => simp [strs] at h
def TlEnd (B : Nat) (r : List ByteArray × Rt) (w : World) (e : Ending) (w' : World) : Prop :=
  ∃ A m c v, e = .returned (.tuple #[.slice A m c, v]) ∧ w'.ownsRow (w.heap.size + 3) 9 1 (.slice A m c) m (strs r.1) ∧ m ≤ c ∧ c ≤ maxLen ∧ TkV B r.2 v w' ∧ Below w.heap.size w w'
def TkW (B : Nat) (t : Rt) (v : Value) (W : World) : Prop := TkV B t v W ∧ B ≤ W.heap.size
theorem TkW.on {B : Nat} {t : Rt} {v : Value} {W W' : World} (h : TkW B t v W) (hb : Below W.heap.size W W') : TkW B t v W' := ⟨h.1.below hb h.2, Nat.le_trans h.2 hb.size⟩
theorem set_size2 (w : World) (a : Addr) (u : Value) : (w.setCell a u).heap.size = w.heap.size := by simp [World.setCell]
theorem nxR_mem {us : List Wd} {b f : Bool} {x : Wd} (h : x ∈ (nxR (us, b) f).1) : x ∈ us := by
  unfold nxR at h
  split at h
  · exact h
  · exact List.mem_of_mem_tail h
theorem nxR_len (us : List Wd) (f : Bool) : ((nxR (us, false) f).2 = false → (nxR (us, false) f).1.length + 1 = us.length) ∧ (nxR (us, false) f).1.length ≤ us.length := by
  unfold nxR
  split
  · exact ⟨fun h => (by cases h), Nat.le_refl _⟩
  · rename_i h
    cases us with
    | nil => exact absurd (.inr (.inr rfl)) h
    | cons x r => exact ⟨fun _ => by simp, by simp⟩
theorem isR_head {us : List Wd} {s : ByteArray} : isR (us, false) s = (match us with | [] => false | x :: _ => decide (x.1 = s)) := by unfold isR; cases us <;> simp
theorem head_D (us : List Wd) : headR stD us = (isR (us, false) semiW || isR (us, false) visibleW) := by
  rw [isR_head, isR_head]; cases us <;> rfl
theorem head_V (us : List Wd) : headR stV us = isR (us, false) semiW := by
  rw [isR_head]; cases us <;> rfl
set_option maxRecDepth 100000 in
set_option maxHeartbeats 16000000 in
theorem tlistD_any (A : Option Addr) (n c B : Nat) (ws : List Wd) (w : World) (h : Sl w B 2 A n (flat wdC ws)) (hB : B ≤ w.heap.size) (hn : n ≤ c) (hc : c ≤ maxLen) (hs : ∀ x ∈ ws, x.1.size ≤ maxLen) (hw : n ≤ 1000000) :
    Calls Tryz.prog 201 #[.agg #[.slice A n c, .bool false], .bool false] w (TlEnd B (lsR frlB stD ws) w) := by
  have HLW := Lib.hid (h.len wdC_len (by omega))
  have HSZ := Lib.hid hs
  have H0 := Lib.hid h
  clear h hs
  obtain ⟨i0, hi, hz0, hz1', hz2'⟩ := info_parts infoStr'
  have Hi := Lib.hid hi; have Hz0 := Lib.hid hz0; have Hz1 := Lib.hid hz1'; have Hz2 := Lib.hid hz2'
  clear hi hz0 hz1' hz2'
  obtain ⟨W0, hW0⟩ : ∃ W0, w.alloc (.cells #[.slice A n c, .bool false] 181) = W0 := ⟨_, rfl⟩
  obtain ⟨W1, hW1⟩ : ∃ W1, W0.alloc (.cells #[.slice none 0 0, .bool false] 181) = W1 := ⟨_, rfl⟩
  obtain ⟨W2, hW2⟩ : ∃ W2, W1.alloc (.cells #[] 9) = W2 := ⟨_, rfl⟩
  have zW0 : W0.heap.size = w.heap.size + 1 := by rw [← hW0]; simp
  have zW1 : W1.heap.size = w.heap.size + 2 := by rw [← hW1]; simp [zW0]
  have zW2 : W2.heap.size = w.heap.size + 3 := by rw [← hW2]; simp [zW1]
  have HB2 : Hid (Below w.heap.size w W2) := by rw [← hW2, ← hW1, ← hW0]; exact (((Below.refl _ w).alloc (Nat.le_refl _) _).alloc (by simp) _).alloc (by simp; omega) _
  have HK0 : Hid (Bk W2 w.heap.size 181 #[.slice A n c, .bool false]) := by rw [← hW2, ← hW1, ← hW0]; exact ((Bk.new w _ _).alloc _).alloc _
  have HK1 : Hid (Bk W2 (w.heap.size + 1) 181 #[.slice none 0 0, .bool false]) := by
    rw [← hW2, ← hW1]; have := (Bk.new W0 181 #[.slice none 0 0, .bool false]).alloc (.cells #[] 9); rwa [zW0] at this
  have HAP : Hid (Apd W2 (w.heap.size + 3) 9 1 (some ⟨w.heap.size + 2, 0, none⟩) 0 0 (strs [])) := .inr ⟨rfl, rfl, rfl⟩
  go_enter Tryz.func201, Tryz.ntmps201
  go_wp2_with fail
  clear hW0 hW1 hW2
  go_loopw [6, 7] (fun o f wr => ∃ (A6 : Option Addr) (m c6 : Nat) (l : List ByteArray) (first : Bool) (A1 : Option Addr) (n1 c1 : Nat) (us : List Wd) (bad : Bool), o = .slice A6 m c6 ∧ f = .bool first ∧ Hid (m = l.length) ∧ m ≤ c6 ∧ c6 ≤ maxLen ∧ Hid (Apd wr (w.heap.size + 3) 9 1 A6 m c6 (strs l)) ∧ Hid (Bk wr w.heap.size 181 #[.slice A1 n1 c1, .bool bad]) ∧ Hid (Bk wr (w.heap.size + 1) 181 #[.slice none 0 0, .bool false]) ∧ Hid (Sl wr B 2 A1 n1 (flat wdC us)) ∧ n1 ≤ c1 ∧ c1 ≤ maxLen ∧ Hid (∀ x ∈ us, x ∈ ws) ∧ (bad = false → m + us.length ≤ n) ∧ m ≤ n + 1 ∧ Hid (LInv frlB stD ws first l (us, bad)) ∧ Hid (Below w.heap.size w wr) ∧ w.heap.size + 3 ≤ wr.heap.size) (fun o _ _ => n + 2 - lenV o)
  case atStart => exact ⟨_, 0, 0, [], true, A, n, c, ws, false, rfl, rfl, rfl, Nat.le_refl _, Nat.zero_le _, HAP.out, HK0.out, HK1.out, H0.out.below HB2.out hB, hn, hc, (fun x h => h), (fun _ => by have := HLW.out; omega), by omega, LInv.start _ _ _, HB2.out, by omega⟩
  case round =>
    obtain ⟨A6, m, c6, l, first, A1, n1, c1, us, bad, rfl, rfl, hm, hmc, hcm, hA, hK0, hK1, hSu, hn1, hc1, hU, hmu, hmn, hL, hBel, hz3⟩ := hrel
    have p0 := hK0.out.cell 0; have p1 := hK0.out.cell 1
    simp at p0 p1
    go_upto_region 3 with fail
    go_cut [28] from 10 to 28 (fun q wx => ∃ b : Bool, q = .bool b ∧ Hid (b = (first || (!bad && !headR stD us))) ∧ Hid (Below wr.heap.size wr wx))
    case first =>
      cases first with
      | true =>
        go_wp2_with fail
        go_meet
        exact ⟨true, rfl, rfl, Below.refl _ _⟩
      | false =>
        cases bad with
        | true =>
          go_wp2_with fail
          go_meet
          exact ⟨false, rfl, rfl, Below.refl _ _⟩
        | false =>
          have hBs := hBel.out.size
          have HI1 := Lib.hid (tis_any A1 n1 c1 B us false semiW wr hSu.out (by omega) hc1 hn1)
          have HHD := Lib.hid (head_D us)
          generalize isR (us, false) semiW = b1 at HI1 HHD
          unfold semiW at HI1
          go_wp2_with fail
          refine HI1.out.mono ?_
          rintro e w2 ⟨rfl, hb2⟩
          cases b1 with
          | true =>
            go_wp2_with fail
            go_meet
            exact ⟨false, rfl, by show _ = _; rw [HHD.out]; rfl, hb2⟩
          | false =>
            have HI2 := Lib.hid (tis_any A1 n1 c1 B us false visibleW w2 (hSu.out.below hb2 (by omega)) (Nat.le_trans (by omega) hb2.size) hc1 hn1)
            generalize isR (us, false) visibleW = b2 at HI2 HHD
            unfold visibleW at HI2
            have hK2 := Lib.hid (hK0.out.below hb2 (by omega))
            have HB2x := Lib.hid hb2
            clear hb2 p0 p1
            have p0 := hK2.out.cell 0; have p1 := hK2.out.cell 1
            simp at p0 p1
            go_wp2_with fail
            refine HI2.out.mono ?_
            rintro e w3 ⟨rfl, hb3⟩
            have HB3x : Hid (Below wr.heap.size wr w3) := HB2x.out.trans (hb3.mono HB2x.out.size)
            clear hb3
            go_wp2_with fail
            go_meet
            exact ⟨!b2, rfl, by show _ = _; rw [HHD.out]; cases b2 <;> rfl, HB3x.out⟩
    case rest =>
      obtain ⟨b, rfl, hb, HBc⟩ := hcut
      have zc := HBc.out.size
      have HBw : Hid (Below w.heap.size w wc) := hBel.out.trans (HBc.out.mono hBel.out.size)
      have hKc0 := Lib.hid (hK0.out.below HBc.out (by omega))
      have hKc1 := Lib.hid (hK1.out.below HBc.out (by omega))
      have hSc := Lib.hid (hSu.out.below HBc.out (Nat.le_trans hB hBel.out.size))
      have hAc := Lib.hid (hA.out.below HBc.out)
      clear p0 p1
      have p0 := hKc0.out.cell 0; have p1 := hKc0.out.cell 1
      simp at p0 p1
      cases b with
      | false =>
        have HE : Hid (lsR frlB stD ws = (l, (us, bad))) := by
          have hb' := hb.out
          rcases hL.out with ⟨h1, h2, _⟩ | ⟨_, _, _, h⟩ | ⟨_, _, h⟩
          · exfalso
            have h1' : bad = false := h1
            have h2' : first = true ∨ headR stD us = false := h2
            rcases h2' with h | h <;> rw [h1', h] at hb' <;> simp at hb'
          · exact h
          · exact h
        have q0 := hKc1.out.cell 0; have q1 := hKc1.out.cell 1
        simp at q0 q1
        have f0 := hKc1.out.free 0; have f1 := hKc1.out.free 1
        go_wp2_with fail
        go_region
        go_wp2_with fail
        refine bodyPost_ret (res_tmpT Tryz.results201 rfl rfl ((hKc1.out.drewN _).set2 _ _)) rfl ⟨A6, m, c6, _, rfl, ?_, hmc, hcm, ?_, below_set2 (below_drewN HBw.out _) (Nat.le_succ _) _ _⟩
        · rw [HE.out]
          refine Apd.owns ?_ (by have := lsR_ne frlB stD ws; rw [HE.out] at this; exact this)
          exact (((hAc.out.below (below_drewN (Below.refl _ _) _)).setCell (by show w.heap.size + 1 < w.heap.size + 3; omega) _).setCell (by show w.heap.size + 1 < w.heap.size + 3; omega) _)
        · rw [HE.out]
          exact ⟨A1, n1, c1, rfl, ((hSc.out.drewN _).setCell (by show B ≤ w.heap.size + 1; omega) _).setCell (by show B ≤ w.heap.size + 1; omega) _, hn1, hc1⟩
      | true =>
        have HE : Hid (bad = false ∧ lsR frlB stD ws = (l ++ (lsR frlB stD us).1, (lsR frlB stD us).2)) := by
          have hb' := hb.out
          rcases hL.out with ⟨h1, _, h⟩ | ⟨h1, h2, h3, _⟩ | ⟨h1, h2, _⟩
          · exact ⟨h1, h⟩
          · exfalso
            have h1' : bad = false := h1
            have h3' : headR stD us = true := h3
            rw [h1', h2, h3'] at hb'; simp at hb'
          · exfalso
            have h1' : bad = true := h1
            rw [h1', h2] at hb'; simp at hb'
        obtain rfl : bad = false := HE.out.1
        have HLE := Lib.hid HE.out.2
        clear HE hL hb
        have HTW := Lib.hid (tword_any A1 n1 c1 B us false wc hSc.out (Nat.le_trans hB HBw.out.size) hc1 hn1)
        have hlw := hSc.out.len wdC_len (by omega)
        go_wp2_with fail
        refine HTW.out.mono ?_
        rintro e w2 ⟨rfl, hb2⟩
        obtain ⟨s, hsx⟩ : ∃ s, wdR (us, false) = s := ⟨_, rfl⟩
        rw [hsx]
        have HSX : Hid (nxtW us = s) := hsx
        have HWS : Hid (s.size ≤ maxLen) := by
          show _ ≤ _
          rw [← HSX.out]
          cases us with
          | nil => exact Nat.zero_le _
          | cons x r => exact HSZ.out x (hU.out x (by simp))
        obtain ⟨fb, hfb⟩ : ∃ fb, frlB s = fb := ⟨_, rfl⟩
        have HFB := Lib.hid hfb
        have HBw2 : Hid (Below w.heap.size w w2) := HBw.out.trans (hb2.mono HBw.out.size)
        have HBc2 : Hid (Below wc.heap.size wc w2) := hb2
        have hK2 := Lib.hid (hKc0.out.below hb2 (by omega))
        have hK21 := Lib.hid (hKc1.out.below hb2 (by omega))
        have HSu := Lib.hid (hSc.out.below hb2 (Nat.le_trans hB HBw.out.size))
        have hA2 := Lib.hid (hAc.out.below hb2)
        have z2 := hb2.size
        have hw2 : w.heap.size < w2.heap.size := by omega
        clear hsx hfb hb2 HTW p0 p1
        have p0 := hK2.out.cell 0; have p1 := hK2.out.cell 1
        simp at p0 p1
        have HSP : Hid (∀ x ∈ [(14, TkW B (nxR (us, false) fb))], ∀ v W W', x.2 v W → Below W.heap.size W W' → x.2 v W') := fun x hx v W W' h hb => by
          rw [List.mem_singleton.1 hx] at h ⊢
          exact TkW.on h hb
        go_wp2_with fail
        refine wp_region_stableGD 15 (31 :: 32 :: 33 :: 34 :: 35 :: 36 :: 37 :: 38 :: 39 :: 40 :: 41 :: 42 :: 43 :: 44 :: 45 :: []) (by kernel_rfl) (by kernel_rfl) (by kernel_rfl) (fun W => Below w2.heap.size w2 W) (fun W W' => Below W.heap.size W W')
          (gPhi [(14, TkW B (nxR (us, false) fb))] ((.agg #[.slice A1 n1 c1, .bool false]) :: (.bool false) :: (.bool false) :: (undef) :: (undef) :: (.bool false) :: (.bool false) :: (.bool false) :: (.bool true) :: (.bool true) :: (.string s) :: (.bool fb) :: (.bool fb) :: (.bool fb) :: (undef) :: [])) (fun W W' h1 h2 => h1.trans (h2.mono h1.size)) (fun i v W W' h hb => gPhi_keep HSP.out i v W W' h hb) (Below.refl _ _).drew ?stepA ?tailA
        case stepA =>
          intro i o vs W hi ho hv hR hphi
          obtain ⟨v0, v1, v2, v3, v4, v5, v6, v7, v8, v9, v10, v11, v12, v13, v14, rfl⟩ := ls15 hv
          simp only [List.zip, List.zipWith, putAll, Act.put, List.setIfInBounds_toArray, List.set]
          have hWz := hR.size
          have t0 := (hR.cell (p := ⟨w.heap.size, 0, none⟩) (by show w.heap.size < _; omega)).trans p0
          have t1 := (hR.cell (p := ⟨w.heap.size, 1, none⟩) (by show w.heap.size < _; omega)).trans p1
          match i, hi, ho with
          | 0, _, rfl =>
            exact .inl ⟨rfl, gives_value (v := .agg #[.slice A1 n1 c1, .bool false]) (w' := W) (by go_simp) ⟨Below.refl _ _, fun u hu => by cases hu; rfl⟩⟩
          | 1, _, rfl =>
            exact .inl ⟨rfl, gives_value (v := .bool false) (w' := W) (by go_simp) ⟨Below.refl _ _, fun u hu => by cases hu; rfl⟩⟩
          | 2, _, rfl =>
            have e1 : v1 = _ := hphi ⟨1, .data⟩ (by simp) rfl v1 rfl _ rfl
            subst e1
            exact .inl ⟨rfl, gives_value (v := .bool false) (w' := W) (by go_simp) ⟨Below.refl _ _, fun u hu => by cases hu; rfl⟩⟩
          | 3, _, rfl =>
            have e2 : v2 = _ := hphi ⟨2, .guard⟩ (by simp) rfl v2 rfl _ rfl
            subst e2
            exact .inr ⟨rfl, Below.refl _ _, fun u hu => by cases hu; rfl⟩
          | 4, _, rfl =>
            have e3 : v3 = _ := hphi ⟨3, .data⟩ (by simp) rfl v3 rfl _ rfl
            have e2 : v2 = _ := hphi ⟨2, .guard⟩ (by simp) rfl v2 rfl _ rfl
            subst e2 e3
            exact .inr ⟨rfl, Below.refl _ _, fun u hu => by cases hu; rfl⟩
          | 5, _, rfl =>
            have e2 : v2 = _ := hphi ⟨2, .data⟩ (by simp) rfl v2 rfl _ rfl
            have e4 : v4 = _ := hphi ⟨4, .data⟩ (by simp) rfl v4 rfl _ rfl
            subst e2 e4
            exact .inl ⟨rfl, gives_value (v := .bool false) (w' := W) (by go_simp) ⟨Below.refl _ _, fun u hu => by cases hu; rfl⟩⟩
          | 6, _, rfl =>
            have e5 : v5 = _ := hphi ⟨5, .data⟩ (by simp) rfl v5 rfl _ rfl
            subst e5
            exact .inl ⟨rfl, gives_value (v := .bool false) (w' := W) (by go_simp) ⟨Below.refl _ _, fun u hu => by cases hu; rfl⟩⟩
          | 7, _, rfl =>
            have e6 : v6 = _ := hphi ⟨6, .guard⟩ (by simp) rfl v6 rfl _ rfl
            subst e6
            exact .inl ⟨rfl, gives_value (v := .bool false) (w' := W) (by go_simp) ⟨Below.refl _ _, fun u hu => by cases hu; rfl⟩⟩
          | 8, _, rfl =>
            have e7 : v7 = _ := hphi ⟨7, .data⟩ (by simp) rfl v7 rfl _ rfl
            have e6 : v6 = _ := hphi ⟨6, .guard⟩ (by simp) rfl v6 rfl _ rfl
            subst e6 e7
            exact .inl ⟨rfl, gives_value (v := .bool true) (w' := W) (by go_simp) ⟨Below.refl _ _, fun u hu => by cases hu; rfl⟩⟩
          | 9, _, rfl =>
            have e8 : v8 = _ := hphi ⟨8, .data⟩ (by simp) rfl v8 rfl _ rfl
            have e6 : v6 = _ := hphi ⟨6, .guard⟩ (by simp) rfl v6 rfl _ rfl
            subst e6 e8
            exact .inl ⟨rfl, gives_value (v := .bool true) (w' := W) (by go_simp) ⟨Below.refl _ _, fun u hu => by cases hu; rfl⟩⟩
          | 10, _, rfl =>
            have e9 : v9 = _ := hphi ⟨9, .guard⟩ (by simp) rfl v9 rfl _ rfl
            subst e9
            exact .inl ⟨rfl, gives_value (v := .string s) (w' := W) (by go_simp) ⟨Below.refl _ _, fun u hu => by cases hu; rfl⟩⟩
          | 11, _, rfl =>
            have e10 : v10 = _ := hphi ⟨10, .data⟩ (by simp) rfl v10 rfl _ rfl
            have e9 : v9 = _ := hphi ⟨9, .guard⟩ (by simp) rfl v9 rfl _ rfl
            subst e9 e10
            refine .inl ⟨rfl, gives_call (f := 229) (args := #[.string s]) (by go_simp) ((rfree_any s W HWS.out).mono ?_)⟩
            rintro e W' ⟨rfl, rfl⟩
            exact ⟨_, rfl, Below.refl _ _, fun u hu => by cases hu; exact congrArg Value.bool HFB.out⟩
          | 12, _, rfl =>
            have e9 : v9 = _ := hphi ⟨9, .data⟩ (by simp) rfl v9 rfl _ rfl
            have e11 : v11 = _ := hphi ⟨11, .data⟩ (by simp) rfl v11 rfl _ rfl
            have e6 : v6 = _ := hphi ⟨6, .guard⟩ (by simp) rfl v6 rfl _ rfl
            subst e6 e9 e11
            exact .inl ⟨rfl, gives_value (v := .bool fb) (w' := W) (by go_simp) ⟨Below.refl _ _, fun u hu => by cases hu; rfl⟩⟩
          | 13, _, rfl =>
            have e6 : v6 = _ := hphi ⟨6, .data⟩ (by simp) rfl v6 rfl _ rfl
            have e12 : v12 = _ := hphi ⟨12, .data⟩ (by simp) rfl v12 rfl _ rfl
            subst e6 e12
            exact .inl ⟨rfl, gives_value (v := .bool fb) (w' := W) (by go_simp) ⟨Below.refl _ _, fun u hu => by cases hu; rfl⟩⟩
          | 14, _, rfl =>
            have e0 : v0 = _ := hphi ⟨0, .data⟩ (by simp) rfl v0 rfl _ rfl
            have e13 : v13 = _ := hphi ⟨13, .data⟩ (by simp) rfl v13 rfl _ rfl
            subst e0 e13
            refine .inl ⟨rfl, gives_call (f := 198) (args := #[.agg #[.slice A1 n1 c1, .bool false], .bool fb]) (by go_simp) ((tnext_any A1 n1 c1 B us false fb W (HSu.out.below hR (Nat.le_trans hB HBw2.out.size)) (Nat.le_trans hB (Nat.le_trans HBw2.out.size hR.size)) hc1 hn1).mono ?_)⟩
            rintro e W' ⟨v, rfl, hv2, hb2⟩
            exact ⟨_, rfl, hb2, ⟨hv2, Nat.le_trans hB (Nat.le_trans HBw2.out.size (Nat.le_trans hR.size hb2.size))⟩⟩
          | i + 15, hi, _ => exact absurd hi (by omega)
        case tailA =>
          intro vs W hv hR hphi
          obtain ⟨v0, v1, v2, v3, v4, v5, v6, v7, v8, v9, v10, v11, v12, v13, v14, rfl⟩ := ls15 hv
          simp only [List.zip, List.zipWith, putAll, Act.put, List.setIfInBounds_toArray, List.set, List.drop]
          have e0 : v0 = _ := hphi 0 v0 rfl _ rfl
          have e1 : v1 = _ := hphi 1 v1 rfl _ rfl
          have e2 : v2 = _ := hphi 2 v2 rfl _ rfl
          have e3 : v3 = _ := hphi 3 v3 rfl _ rfl
          have e4 : v4 = _ := hphi 4 v4 rfl _ rfl
          have e5 : v5 = _ := hphi 5 v5 rfl _ rfl
          have e6 : v6 = _ := hphi 6 v6 rfl _ rfl
          have e7 : v7 = _ := hphi 7 v7 rfl _ rfl
          have e8 : v8 = _ := hphi 8 v8 rfl _ rfl
          have e9 : v9 = _ := hphi 9 v9 rfl _ rfl
          have e10 : v10 = _ := hphi 10 v10 rfl _ rfl
          have e11 : v11 = _ := hphi 11 v11 rfl _ rfl
          have e12 : v12 = _ := hphi 12 v12 rfl _ rfl
          have e13 : v13 = _ := hphi 13 v13 rfl _ rfl
          have e14 : (TkW B (nxR (us, false) fb)) v14 W := hphi 14 v14 rfl
          subst e0 e1 e2 e3 e4 e5 e6 e7 e8 e9 e10 e11 e12 e13
          clear hphi hv
          obtain ⟨⟨us2, bad2⟩, hnx⟩ : ∃ t : Rt, nxR (us, false) fb = t := ⟨_, rfl⟩
          rw [hnx] at e14
          obtain ⟨⟨A2, n2, c2, rfl, hs2, hn2, hc2⟩, _⟩ := e14
          have HNX := Lib.hid hnx
          clear hnx
          have zR := hR.size
          have hK3 := Lib.hid (hK2.out.below hR hw2)
          have hK31 := Lib.hid (hK21.out.below hR (by omega))
          have hA3 := Lib.hid (hA2.out.below hR)
          have HBw3 : Hid (Below w.heap.size w W) := HBw2.out.trans (hR.mono HBw2.out.size)
          have HS2 := Lib.hid hs2
          clear hR hs2
          have p0 := hK3.out.cell 0; have p1 := hK3.out.cell 1
          simp at p0 p1
          have f0 := hK3.out.free 0; have f1 := hK3.out.free 1
          obtain ⟨W3, hW3⟩ : ∃ W3, (W.setCell ⟨w.heap.size, 0, none⟩ (.slice A2 n2 c2)).setCell ⟨w.heap.size, 1, none⟩ (.bool bad2) = W3 := ⟨_, rfl⟩
          have hK4 : Hid (Bk W3 w.heap.size 181 #[.slice A2 n2 c2, .bool bad2]) := by rw [← hW3]; exact hK3.out.set2 _ _
          have hK41 : Hid (Bk W3 (w.heap.size + 1) 181 #[.slice none 0 0, .bool false]) := by rw [← hW3]; exact (hK31.out.far (by show w.heap.size + 1 ≠ w.heap.size; omega) _).far (by show w.heap.size + 1 ≠ w.heap.size; omega) _
          have hA4 : Hid (Apd W3 (w.heap.size + 3) 9 1 A6 m c6 (strs l)) := by rw [← hW3]; exact (hA3.out.setCell (by show w.heap.size < w.heap.size + 3; omega) _).setCell (by show w.heap.size < w.heap.size + 3; omega) _
          have hS4 : Hid (Sl W3 B 2 A2 n2 (flat wdC us2)) := by rw [← hW3]; exact (HS2.out.setCell (by exact hB) _).setCell (by exact hB) _
          have HBw4 : Hid (Below w.heap.size w W3) := by rw [← hW3]; exact below_set2 HBw3.out (Nat.le_refl _) _ _
          have zW3 : W3.heap.size = W.heap.size := by rw [← hW3, set_size2, set_size2]
          have HW3 := Lib.hid hW3
          clear hW3 hK3 hK31 hA3 HS2 hK2 hK21 hA2
          have hmn1 : m + us.length ≤ n := by first | exact hmu rfl | exact hmu trivial
          go_wp2_with (at_builtin; refine halt_app (.tmp 46) (.tmp 48) 33 rfl ?_)
          refine unhalt ?_
          rw [HW3.out]
          refine wpList_append_apd (base := w.heap.size + 3) (size := 1) _ rfl (.tmp 46) (.tmp 48) 33 rfl 9 i0 _ 16 Tryz.underlying33 Hi.out Hz0.out Hz1.out Hz2.out rfl (by decide) A6 m c6 (strs l) rfl ?own_1 (W3.heap.size + 1) _ 1 _ [.string s] rfl ?nw_1 (by simp [Value.oneCell']) ?m1_1 ?m2_1 ?m3_1 ?_
          case own_1 => exact hA4.out.below ((Below.refl _ W3).alloc (Nat.le_refl _) _)
          case nw_1 =>
            refine ⟨rfl, fun _ => ⟨W.heap.size, 0, rfl, by omega, fun j u hu => ?_⟩⟩
            have := new_cell W3 9 s j u hu
            rw [zW3] at this
            rwa [Addr.add_lit] at this
          case m1_1 => unfold maxLen; omega
          case m2_1 => omega
          case m3_1 => simp; omega
          intro A7 c7 w4 ho4 hb4 hn4 hm4 hok4
          have HA4 : Hid (Apd w4 (w.heap.size + 3) 9 1 A7 (m + 1) c7 (strs (l ++ [s]))) := by show Apd _ _ _ _ _ _ _ _; rw [strs_sn]; exact ho4
          have HB5 : Hid (Below w.heap.size w w4) := (HBw4.out.alloc HBw4.out.size _).trans (hb4.mono (by omega))
          have hK5 := Lib.hid ((hK4.out.alloc (.cells #[.string s] 9)).below hb4 (by omega))
          have hK51 := Lib.hid ((hK41.out.alloc (.cells #[.string s] 9)).below hb4 (by omega))
          have hS5 := Lib.hid ((hS4.out.alloc (Nat.le_trans hB HBw4.out.size) (.cells #[.string s] 9)).below hb4 (by omega))
          have HLI : Hid (LInv frlB stD ws false (l ++ [s]) (us2, bad2)) := by
            have := LInv.step (v := frlB) (st := stD) (by decide) HLE.out
            rw [HSX.out, HFB.out, HNX.out] at this
            exact this
          have hU2 : Hid (∀ x ∈ us2, x ∈ ws) := fun x hx => hU.out x (nxR_mem (b := false) (f := fb) (by rw [HNX.out]; exact hx))
          have hln := nxR_len us fb
          rw [HNX.out] at hln
          have hz4 := hb4.size
          have hml : Hid (m + 1 = (l ++ [s]).length) := by show _ = _; rw [List.length_append, ← hm.out]; rfl
          rw [World.size_alloc] at hz4
          have hmu2 : bad2 = false → m + 1 + us2.length ≤ n := fun e => by have := hln.1 e; simp only at this; omega
          clear ho4 hb4 hok4 hln
          go_wp2_with fail
          go_roundw
          case rel => exact ⟨A7, m + 1, c7, l ++ [s], false, A2, n2, c2, us2, bad2, rfl, rfl, hml.out, hn4, hm4, HA4.out, hK5.out, hK51.out, hS5.out, hn2, hc2, hU2.out, hmu2, by omega, HLI.out, HB5.out, by omega⟩
          case measure => simp [lenV]; omega
set_option maxRecDepth 100000 in
set_option maxHeartbeats 16000000 in
theorem tlistV_any (A : Option Addr) (n c B : Nat) (ws : List Wd) (w : World) (h : Sl w B 2 A n (flat wdC ws)) (hB : B ≤ w.heap.size) (hn : n ≤ c) (hc : c ≤ maxLen) (hs : ∀ x ∈ ws, x.1.size ≤ maxLen) (hw : n ≤ 1000000) :
    Calls Tryz.prog 201 #[.agg #[.slice A n c, .bool false], .bool true] w (TlEnd B (lsR viewB stV ws) w) := by
  have HLW := Lib.hid (h.len wdC_len (by omega))
  have HSZ := Lib.hid hs
  have H0 := Lib.hid h
  clear h hs
  obtain ⟨i0, hi, hz0, hz1', hz2'⟩ := info_parts infoStr'
  have Hi := Lib.hid hi; have Hz0 := Lib.hid hz0; have Hz1 := Lib.hid hz1'; have Hz2 := Lib.hid hz2'
  clear hi hz0 hz1' hz2'
  obtain ⟨W0, hW0⟩ : ∃ W0, w.alloc (.cells #[.slice A n c, .bool false] 181) = W0 := ⟨_, rfl⟩
  obtain ⟨W1, hW1⟩ : ∃ W1, W0.alloc (.cells #[.slice none 0 0, .bool false] 181) = W1 := ⟨_, rfl⟩
  obtain ⟨W2, hW2⟩ : ∃ W2, W1.alloc (.cells #[] 9) = W2 := ⟨_, rfl⟩
  have zW0 : W0.heap.size = w.heap.size + 1 := by rw [← hW0]; simp
  have zW1 : W1.heap.size = w.heap.size + 2 := by rw [← hW1]; simp [zW0]
  have zW2 : W2.heap.size = w.heap.size + 3 := by rw [← hW2]; simp [zW1]
  have HB2 : Hid (Below w.heap.size w W2) := by rw [← hW2, ← hW1, ← hW0]; exact (((Below.refl _ w).alloc (Nat.le_refl _) _).alloc (by simp) _).alloc (by simp; omega) _
  have HK0 : Hid (Bk W2 w.heap.size 181 #[.slice A n c, .bool false]) := by rw [← hW2, ← hW1, ← hW0]; exact ((Bk.new w _ _).alloc _).alloc _
  have HK1 : Hid (Bk W2 (w.heap.size + 1) 181 #[.slice none 0 0, .bool false]) := by
    rw [← hW2, ← hW1]; have := (Bk.new W0 181 #[.slice none 0 0, .bool false]).alloc (.cells #[] 9); rwa [zW0] at this
  have HAP : Hid (Apd W2 (w.heap.size + 3) 9 1 (some ⟨w.heap.size + 2, 0, none⟩) 0 0 (strs [])) := .inr ⟨rfl, rfl, rfl⟩
  go_enter Tryz.func201, Tryz.ntmps201
  go_wp2_with fail
  clear hW0 hW1 hW2
  go_loopw [6, 7] (fun o f wr => ∃ (A6 : Option Addr) (m c6 : Nat) (l : List ByteArray) (first : Bool) (A1 : Option Addr) (n1 c1 : Nat) (us : List Wd) (bad : Bool), o = .slice A6 m c6 ∧ f = .bool first ∧ Hid (m = l.length) ∧ m ≤ c6 ∧ c6 ≤ maxLen ∧ Hid (Apd wr (w.heap.size + 3) 9 1 A6 m c6 (strs l)) ∧ Hid (Bk wr w.heap.size 181 #[.slice A1 n1 c1, .bool bad]) ∧ Hid (Bk wr (w.heap.size + 1) 181 #[.slice none 0 0, .bool false]) ∧ Hid (Sl wr B 2 A1 n1 (flat wdC us)) ∧ n1 ≤ c1 ∧ c1 ≤ maxLen ∧ Hid (∀ x ∈ us, x ∈ ws) ∧ (bad = false → m + us.length ≤ n) ∧ m ≤ n + 1 ∧ Hid (LInv viewB stV ws first l (us, bad)) ∧ Hid (Below w.heap.size w wr) ∧ w.heap.size + 3 ≤ wr.heap.size) (fun o _ _ => n + 2 - lenV o)
  case atStart => exact ⟨_, 0, 0, [], true, A, n, c, ws, false, rfl, rfl, rfl, Nat.le_refl _, Nat.zero_le _, HAP.out, HK0.out, HK1.out, H0.out.below HB2.out hB, hn, hc, (fun x h => h), (fun _ => by have := HLW.out; omega), by omega, LInv.start _ _ _, HB2.out, by omega⟩
  case round =>
    obtain ⟨A6, m, c6, l, first, A1, n1, c1, us, bad, rfl, rfl, hm, hmc, hcm, hA, hK0, hK1, hSu, hn1, hc1, hU, hmu, hmn, hL, hBel, hz3⟩ := hrel
    have p0 := hK0.out.cell 0; have p1 := hK0.out.cell 1
    simp at p0 p1
    go_upto_region 3 with fail
    go_cut [28] from 10 to 28 (fun q wx => ∃ b : Bool, q = .bool b ∧ Hid (b = (first || (!bad && !headR stV us))) ∧ Hid (Below wr.heap.size wr wx))
    case first =>
      cases first with
      | true =>
        go_wp2_with fail
        go_meet
        exact ⟨true, rfl, rfl, Below.refl _ _⟩
      | false =>
        cases bad with
        | true =>
          go_wp2_with fail
          go_meet
          exact ⟨false, rfl, rfl, Below.refl _ _⟩
        | false =>
          have hBs := hBel.out.size
          have HI1 := Lib.hid (tis_any A1 n1 c1 B us false semiW wr hSu.out (by omega) hc1 hn1)
          have HHD := Lib.hid (head_V us)
          generalize isR (us, false) semiW = b1 at HI1 HHD
          unfold semiW at HI1
          go_wp2_with fail
          refine HI1.out.mono ?_
          rintro e w2 ⟨rfl, hb2⟩
          cases b1 with
          | true =>
            go_wp2_with fail
            go_meet
            exact ⟨false, rfl, by show _ = _; rw [HHD.out]; rfl, hb2⟩
          | false =>
            go_wp2_with fail
            go_meet
            exact ⟨true, rfl, by show _ = _; rw [HHD.out]; rfl, hb2⟩
    case rest =>
      obtain ⟨b, rfl, hb, HBc⟩ := hcut
      have zc := HBc.out.size
      have HBw : Hid (Below w.heap.size w wc) := hBel.out.trans (HBc.out.mono hBel.out.size)
      have hKc0 := Lib.hid (hK0.out.below HBc.out (by omega))
      have hKc1 := Lib.hid (hK1.out.below HBc.out (by omega))
      have hSc := Lib.hid (hSu.out.below HBc.out (Nat.le_trans hB hBel.out.size))
      have hAc := Lib.hid (hA.out.below HBc.out)
      clear p0 p1
      have p0 := hKc0.out.cell 0; have p1 := hKc0.out.cell 1
      simp at p0 p1
      cases b with
      | false =>
        have HE : Hid (lsR viewB stV ws = (l, (us, bad))) := by
          have hb' := hb.out
          rcases hL.out with ⟨h1, h2, _⟩ | ⟨_, _, _, h⟩ | ⟨_, _, h⟩
          · exfalso
            have h1' : bad = false := h1
            have h2' : first = true ∨ headR stV us = false := h2
            rcases h2' with h | h <;> rw [h1', h] at hb' <;> simp at hb'
          · exact h
          · exact h
        have q0 := hKc1.out.cell 0; have q1 := hKc1.out.cell 1
        simp at q0 q1
        have f0 := hKc1.out.free 0; have f1 := hKc1.out.free 1
        go_wp2_with fail
        go_region
        go_wp2_with fail
        refine bodyPost_ret (res_tmpT Tryz.results201 rfl rfl ((hKc1.out.drewN _).set2 _ _)) rfl ⟨A6, m, c6, _, rfl, ?_, hmc, hcm, ?_, below_set2 (below_drewN HBw.out _) (Nat.le_succ _) _ _⟩
        · rw [HE.out]
          refine Apd.owns ?_ (by have := lsR_ne viewB stV ws; rw [HE.out] at this; exact this)
          exact (((hAc.out.below (below_drewN (Below.refl _ _) _)).setCell (by show w.heap.size + 1 < w.heap.size + 3; omega) _).setCell (by show w.heap.size + 1 < w.heap.size + 3; omega) _)
        · rw [HE.out]
          exact ⟨A1, n1, c1, rfl, ((hSc.out.drewN _).setCell (by show B ≤ w.heap.size + 1; omega) _).setCell (by show B ≤ w.heap.size + 1; omega) _, hn1, hc1⟩
      | true =>
        have HE : Hid (bad = false ∧ lsR viewB stV ws = (l ++ (lsR viewB stV us).1, (lsR viewB stV us).2)) := by
          have hb' := hb.out
          rcases hL.out with ⟨h1, _, h⟩ | ⟨h1, h2, h3, _⟩ | ⟨h1, h2, _⟩
          · exact ⟨h1, h⟩
          · exfalso
            have h1' : bad = false := h1
            have h3' : headR stV us = true := h3
            rw [h1', h2, h3'] at hb'; simp at hb'
          · exfalso
            have h1' : bad = true := h1
            rw [h1', h2] at hb'; simp at hb'
        obtain rfl : bad = false := HE.out.1
        have HLE := Lib.hid HE.out.2
        clear HE hL hb
        have HTW := Lib.hid (tword_any A1 n1 c1 B us false wc hSc.out (Nat.le_trans hB HBw.out.size) hc1 hn1)
        have hlw := hSc.out.len wdC_len (by omega)
        go_wp2_with fail
        refine HTW.out.mono ?_
        rintro e w2 ⟨rfl, hb2⟩
        obtain ⟨s, hsx⟩ : ∃ s, wdR (us, false) = s := ⟨_, rfl⟩
        rw [hsx]
        have HSX : Hid (nxtW us = s) := hsx
        have HWS : Hid (s.size ≤ maxLen) := by
          show _ ≤ _
          rw [← HSX.out]
          cases us with
          | nil => exact Nat.zero_le _
          | cons x r => exact HSZ.out x (hU.out x (by simp))
        obtain ⟨fb, hfb⟩ : ∃ fb, viewB s = fb := ⟨_, rfl⟩
        have HFB := Lib.hid hfb
        have HBw2 : Hid (Below w.heap.size w w2) := HBw.out.trans (hb2.mono HBw.out.size)
        have HBc2 : Hid (Below wc.heap.size wc w2) := hb2
        have hK2 := Lib.hid (hKc0.out.below hb2 (by omega))
        have hK21 := Lib.hid (hKc1.out.below hb2 (by omega))
        have HSu := Lib.hid (hSc.out.below hb2 (Nat.le_trans hB HBw.out.size))
        have hA2 := Lib.hid (hAc.out.below hb2)
        have z2 := hb2.size
        have hw2 : w.heap.size < w2.heap.size := by omega
        clear hsx hfb hb2 HTW p0 p1
        have p0 := hK2.out.cell 0; have p1 := hK2.out.cell 1
        simp at p0 p1
        cases fb with
        | true =>
          have HSP : Hid (∀ x ∈ [(14, TkW B (nxR (us, false) true))], ∀ v W W', x.2 v W → Below W.heap.size W W' → x.2 v W') := fun x hx v W W' h hb => by
            rw [List.mem_singleton.1 hx] at h ⊢
            exact TkW.on h hb
          go_wp2_with fail
          refine wp_region_stableGD 15 (31 :: 32 :: 33 :: 34 :: 35 :: 36 :: 37 :: 38 :: 39 :: 40 :: 41 :: 42 :: 43 :: 44 :: 45 :: []) (by kernel_rfl) (by kernel_rfl) (by kernel_rfl) (fun W => Below w2.heap.size w2 W) (fun W W' => Below W.heap.size W W')
            (gPhi [(14, TkW B (nxR (us, false) true))] ((.agg #[.slice A1 n1 c1, .bool false]) :: (.bool true) :: (.bool true) :: (.string s) :: (.bool true) :: (.bool true) :: (.bool true) :: (undef) :: (undef) :: (undef) :: (undef) :: (undef) :: (undef) :: (.bool true) :: (undef) :: [])) (fun W W' h1 h2 => h1.trans (h2.mono h1.size)) (fun i v W W' h hb => gPhi_keep HSP.out i v W W' h hb) (Below.refl _ _).drew ?stepA ?tailA
          case stepA =>
            intro i o vs W hi ho hv hR hphi
            obtain ⟨v0, v1, v2, v3, v4, v5, v6, v7, v8, v9, v10, v11, v12, v13, v14, rfl⟩ := ls15 hv
            simp only [List.zip, List.zipWith, putAll, Act.put, List.setIfInBounds_toArray, List.set]
            have hWz := hR.size
            have t0 := (hR.cell (p := ⟨w.heap.size, 0, none⟩) (by show w.heap.size < _; omega)).trans p0
            have t1 := (hR.cell (p := ⟨w.heap.size, 1, none⟩) (by show w.heap.size < _; omega)).trans p1
            match i, hi, ho with
            | 0, _, rfl =>
              exact .inl ⟨rfl, gives_value (v := .agg #[.slice A1 n1 c1, .bool false]) (w' := W) (by go_simp) ⟨Below.refl _ _, fun u hu => by cases hu; rfl⟩⟩
            | 1, _, rfl =>
              exact .inl ⟨rfl, gives_value (v := .bool true) (w' := W) (by go_simp) ⟨Below.refl _ _, fun u hu => by cases hu; rfl⟩⟩
            | 2, _, rfl =>
              have e1 : v1 = _ := hphi ⟨1, .data⟩ (by simp) rfl v1 rfl _ rfl
              subst e1
              exact .inl ⟨rfl, gives_value (v := .bool true) (w' := W) (by go_simp) ⟨Below.refl _ _, fun u hu => by cases hu; rfl⟩⟩
            | 3, _, rfl =>
              have e2 : v2 = _ := hphi ⟨2, .guard⟩ (by simp) rfl v2 rfl _ rfl
              subst e2
              exact .inl ⟨rfl, gives_value (v := .string s) (w' := W) (by go_simp) ⟨Below.refl _ _, fun u hu => by cases hu; rfl⟩⟩
            | 4, _, rfl =>
              have e3 : v3 = _ := hphi ⟨3, .data⟩ (by simp) rfl v3 rfl _ rfl
              have e2 : v2 = _ := hphi ⟨2, .guard⟩ (by simp) rfl v2 rfl _ rfl
              subst e2 e3
              refine .inl ⟨rfl, gives_call (f := 228) (args := #[.string s]) (by go_simp) ((rseen_any s W HWS.out).mono ?_)⟩
              rintro e W' ⟨rfl, rfl⟩
              exact ⟨_, rfl, Below.refl _ _, fun u hu => by cases hu; exact congrArg Value.bool HFB.out⟩
            | 5, _, rfl =>
              have e2 : v2 = _ := hphi ⟨2, .data⟩ (by simp) rfl v2 rfl _ rfl
              have e4 : v4 = _ := hphi ⟨4, .data⟩ (by simp) rfl v4 rfl _ rfl
              subst e2 e4
              exact .inl ⟨rfl, gives_value (v := .bool true) (w' := W) (by go_simp) ⟨Below.refl _ _, fun u hu => by cases hu; rfl⟩⟩
            | 6, _, rfl =>
              have e5 : v5 = _ := hphi ⟨5, .data⟩ (by simp) rfl v5 rfl _ rfl
              subst e5
              exact .inl ⟨rfl, gives_value (v := .bool true) (w' := W) (by go_simp) ⟨Below.refl _ _, fun u hu => by cases hu; rfl⟩⟩
            | 7, _, rfl =>
              have e6 : v6 = _ := hphi ⟨6, .guard⟩ (by simp) rfl v6 rfl _ rfl
              subst e6
              exact .inr ⟨rfl, Below.refl _ _, fun u hu => by cases hu; rfl⟩
            | 8, _, rfl =>
              have e7 : v7 = _ := hphi ⟨7, .data⟩ (by simp) rfl v7 rfl _ rfl
              have e6 : v6 = _ := hphi ⟨6, .guard⟩ (by simp) rfl v6 rfl _ rfl
              subst e6 e7
              exact .inr ⟨rfl, Below.refl _ _, fun u hu => by cases hu; rfl⟩
            | 9, _, rfl =>
              have e8 : v8 = _ := hphi ⟨8, .data⟩ (by simp) rfl v8 rfl _ rfl
              have e6 : v6 = _ := hphi ⟨6, .guard⟩ (by simp) rfl v6 rfl _ rfl
              subst e6 e8
              exact .inr ⟨rfl, Below.refl _ _, fun u hu => by cases hu; rfl⟩
            | 10, _, rfl =>
              have e9 : v9 = _ := hphi ⟨9, .guard⟩ (by simp) rfl v9 rfl _ rfl
              subst e9
              exact .inr ⟨rfl, Below.refl _ _, fun u hu => by cases hu; rfl⟩
            | 11, _, rfl =>
              have e10 : v10 = _ := hphi ⟨10, .data⟩ (by simp) rfl v10 rfl _ rfl
              have e9 : v9 = _ := hphi ⟨9, .guard⟩ (by simp) rfl v9 rfl _ rfl
              subst e9 e10
              exact .inr ⟨rfl, Below.refl _ _, fun u hu => by cases hu; rfl⟩
            | 12, _, rfl =>
              have e9 : v9 = _ := hphi ⟨9, .data⟩ (by simp) rfl v9 rfl _ rfl
              have e11 : v11 = _ := hphi ⟨11, .data⟩ (by simp) rfl v11 rfl _ rfl
              have e6 : v6 = _ := hphi ⟨6, .guard⟩ (by simp) rfl v6 rfl _ rfl
              subst e6 e9 e11
              exact .inr ⟨rfl, Below.refl _ _, fun u hu => by cases hu; rfl⟩
            | 13, _, rfl =>
              have e6 : v6 = _ := hphi ⟨6, .data⟩ (by simp) rfl v6 rfl _ rfl
              have e12 : v12 = _ := hphi ⟨12, .data⟩ (by simp) rfl v12 rfl _ rfl
              subst e6 e12
              exact .inl ⟨rfl, gives_value (v := .bool true) (w' := W) (by go_simp) ⟨Below.refl _ _, fun u hu => by cases hu; rfl⟩⟩
            | 14, _, rfl =>
              have e0 : v0 = _ := hphi ⟨0, .data⟩ (by simp) rfl v0 rfl _ rfl
              have e13 : v13 = _ := hphi ⟨13, .data⟩ (by simp) rfl v13 rfl _ rfl
              subst e0 e13
              refine .inl ⟨rfl, gives_call (f := 198) (args := #[.agg #[.slice A1 n1 c1, .bool false], .bool true]) (by go_simp) ((tnext_any A1 n1 c1 B us false true W (HSu.out.below hR (Nat.le_trans hB HBw2.out.size)) (Nat.le_trans hB (Nat.le_trans HBw2.out.size hR.size)) hc1 hn1).mono ?_)⟩
              rintro e W' ⟨v, rfl, hv2, hb2⟩
              exact ⟨_, rfl, hb2, ⟨hv2, Nat.le_trans hB (Nat.le_trans HBw2.out.size (Nat.le_trans hR.size hb2.size))⟩⟩
            | i + 15, hi, _ => exact absurd hi (by omega)
          case tailA =>
            intro vs W hv hR hphi
            obtain ⟨v0, v1, v2, v3, v4, v5, v6, v7, v8, v9, v10, v11, v12, v13, v14, rfl⟩ := ls15 hv
            simp only [List.zip, List.zipWith, putAll, Act.put, List.setIfInBounds_toArray, List.set, List.drop]
            have e0 : v0 = _ := hphi 0 v0 rfl _ rfl
            have e1 : v1 = _ := hphi 1 v1 rfl _ rfl
            have e2 : v2 = _ := hphi 2 v2 rfl _ rfl
            have e3 : v3 = _ := hphi 3 v3 rfl _ rfl
            have e4 : v4 = _ := hphi 4 v4 rfl _ rfl
            have e5 : v5 = _ := hphi 5 v5 rfl _ rfl
            have e6 : v6 = _ := hphi 6 v6 rfl _ rfl
            have e7 : v7 = _ := hphi 7 v7 rfl _ rfl
            have e8 : v8 = _ := hphi 8 v8 rfl _ rfl
            have e9 : v9 = _ := hphi 9 v9 rfl _ rfl
            have e10 : v10 = _ := hphi 10 v10 rfl _ rfl
            have e11 : v11 = _ := hphi 11 v11 rfl _ rfl
            have e12 : v12 = _ := hphi 12 v12 rfl _ rfl
            have e13 : v13 = _ := hphi 13 v13 rfl _ rfl
            have e14 : (TkW B (nxR (us, false) true)) v14 W := hphi 14 v14 rfl
            subst e0 e1 e2 e3 e4 e5 e6 e7 e8 e9 e10 e11 e12 e13
            clear hphi hv
            obtain ⟨⟨us2, bad2⟩, hnx⟩ : ∃ t : Rt, nxR (us, false) true = t := ⟨_, rfl⟩
            rw [hnx] at e14
            obtain ⟨⟨A2, n2, c2, rfl, hs2, hn2, hc2⟩, _⟩ := e14
            have HNX := Lib.hid hnx
            clear hnx
            have zR := hR.size
            have hK3 := Lib.hid (hK2.out.below hR hw2)
            have hK31 := Lib.hid (hK21.out.below hR (by omega))
            have hA3 := Lib.hid (hA2.out.below hR)
            have HBw3 : Hid (Below w.heap.size w W) := HBw2.out.trans (hR.mono HBw2.out.size)
            have HS2 := Lib.hid hs2
            clear hR hs2
            have p0 := hK3.out.cell 0; have p1 := hK3.out.cell 1
            simp at p0 p1
            have f0 := hK3.out.free 0; have f1 := hK3.out.free 1
            obtain ⟨W3, hW3⟩ : ∃ W3, (W.setCell ⟨w.heap.size, 0, none⟩ (.slice A2 n2 c2)).setCell ⟨w.heap.size, 1, none⟩ (.bool bad2) = W3 := ⟨_, rfl⟩
            have hK4 : Hid (Bk W3 w.heap.size 181 #[.slice A2 n2 c2, .bool bad2]) := by rw [← hW3]; exact hK3.out.set2 _ _
            have hK41 : Hid (Bk W3 (w.heap.size + 1) 181 #[.slice none 0 0, .bool false]) := by rw [← hW3]; exact (hK31.out.far (by show w.heap.size + 1 ≠ w.heap.size; omega) _).far (by show w.heap.size + 1 ≠ w.heap.size; omega) _
            have hA4 : Hid (Apd W3 (w.heap.size + 3) 9 1 A6 m c6 (strs l)) := by rw [← hW3]; exact (hA3.out.setCell (by show w.heap.size < w.heap.size + 3; omega) _).setCell (by show w.heap.size < w.heap.size + 3; omega) _
            have hS4 : Hid (Sl W3 B 2 A2 n2 (flat wdC us2)) := by rw [← hW3]; exact (HS2.out.setCell (by exact hB) _).setCell (by exact hB) _
            have HBw4 : Hid (Below w.heap.size w W3) := by rw [← hW3]; exact below_set2 HBw3.out (Nat.le_refl _) _ _
            have zW3 : W3.heap.size = W.heap.size := by rw [← hW3, set_size2, set_size2]
            have HW3 := Lib.hid hW3
            clear hW3 hK3 hK31 hA3 HS2 hK2 hK21 hA2
            have hmn1 : m + us.length ≤ n := by first | exact hmu rfl | exact hmu trivial
            go_wp2_with (at_builtin; refine halt_app (.tmp 46) (.tmp 48) 33 rfl ?_)
            refine unhalt ?_
            rw [HW3.out]
            refine wpList_append_apd (base := w.heap.size + 3) (size := 1) _ rfl (.tmp 46) (.tmp 48) 33 rfl 9 i0 _ 16 Tryz.underlying33 Hi.out Hz0.out Hz1.out Hz2.out rfl (by decide) A6 m c6 (strs l) rfl ?own_1 (W3.heap.size + 1) _ 1 _ [.string s] rfl ?nw_1 (by simp [Value.oneCell']) ?m1_1 ?m2_1 ?m3_1 ?_
            case own_1 => exact hA4.out.below ((Below.refl _ W3).alloc (Nat.le_refl _) _)
            case nw_1 =>
              refine ⟨rfl, fun _ => ⟨W.heap.size, 0, rfl, by omega, fun j u hu => ?_⟩⟩
              have := new_cell W3 9 s j u hu
              rw [zW3] at this
              rwa [Addr.add_lit] at this
            case m1_1 => unfold maxLen; omega
            case m2_1 => omega
            case m3_1 => simp; omega
            intro A7 c7 w4 ho4 hb4 hn4 hm4 hok4
            have HA4 : Hid (Apd w4 (w.heap.size + 3) 9 1 A7 (m + 1) c7 (strs (l ++ [s]))) := by show Apd _ _ _ _ _ _ _ _; rw [strs_sn]; exact ho4
            have HB5 : Hid (Below w.heap.size w w4) := (HBw4.out.alloc HBw4.out.size _).trans (hb4.mono (by omega))
            have hK5 := Lib.hid ((hK4.out.alloc (.cells #[.string s] 9)).below hb4 (by omega))
            have hK51 := Lib.hid ((hK41.out.alloc (.cells #[.string s] 9)).below hb4 (by omega))
            have hS5 := Lib.hid ((hS4.out.alloc (Nat.le_trans hB HBw4.out.size) (.cells #[.string s] 9)).below hb4 (by omega))
            have HLI : Hid (LInv viewB stV ws false (l ++ [s]) (us2, bad2)) := by
              have := LInv.step (v := viewB) (st := stV) (by decide) HLE.out
              rw [HSX.out, HFB.out, HNX.out] at this
              exact this
            have hU2 : Hid (∀ x ∈ us2, x ∈ ws) := fun x hx => hU.out x (nxR_mem (b := false) (f := true) (by rw [HNX.out]; exact hx))
            have hln := nxR_len us true
            rw [HNX.out] at hln
            have hz4 := hb4.size
            have hml : Hid (m + 1 = (l ++ [s]).length) := by show _ = _; rw [List.length_append, ← hm.out]; rfl
            rw [World.size_alloc] at hz4
            have hmu2 : bad2 = false → m + 1 + us2.length ≤ n := fun e => by have := hln.1 e; simp only at this; omega
            clear ho4 hb4 hok4 hln
            go_wp2_with fail
            go_roundw
            case rel => exact ⟨A7, m + 1, c7, l ++ [s], false, A2, n2, c2, us2, bad2, rfl, rfl, hml.out, hn4, hm4, HA4.out, hK5.out, hK51.out, hS5.out, hn2, hc2, hU2.out, hmu2, by omega, HLI.out, HB5.out, by omega⟩
            case measure => simp [lenV]; omega
        | false =>
          have HSP : Hid (∀ x ∈ [(14, TkW B (nxR (us, false) false))], ∀ v W W', x.2 v W → Below W.heap.size W W' → x.2 v W') := fun x hx v W W' h hb => by
            rw [List.mem_singleton.1 hx] at h ⊢
            exact TkW.on h hb
          go_wp2_with fail
          refine wp_region_stableGD 15 (31 :: 32 :: 33 :: 34 :: 35 :: 36 :: 37 :: 38 :: 39 :: 40 :: 41 :: 42 :: 43 :: 44 :: 45 :: []) (by kernel_rfl) (by kernel_rfl) (by kernel_rfl) (fun W => Below w2.heap.size w2 W) (fun W W' => Below W.heap.size W W')
            (gPhi [(14, TkW B (nxR (us, false) false))] ((.agg #[.slice A1 n1 c1, .bool false]) :: (.bool true) :: (.bool true) :: (.string s) :: (.bool false) :: (.bool false) :: (.bool false) :: (.bool true) :: (.bool false) :: (.bool false) :: (undef) :: (undef) :: (.bool false) :: (.bool false) :: (undef) :: [])) (fun W W' h1 h2 => h1.trans (h2.mono h1.size)) (fun i v W W' h hb => gPhi_keep HSP.out i v W W' h hb) (Below.refl _ _).drew ?stepA ?tailA
          case stepA =>
            intro i o vs W hi ho hv hR hphi
            obtain ⟨v0, v1, v2, v3, v4, v5, v6, v7, v8, v9, v10, v11, v12, v13, v14, rfl⟩ := ls15 hv
            simp only [List.zip, List.zipWith, putAll, Act.put, List.setIfInBounds_toArray, List.set]
            have hWz := hR.size
            have t0 := (hR.cell (p := ⟨w.heap.size, 0, none⟩) (by show w.heap.size < _; omega)).trans p0
            have t1 := (hR.cell (p := ⟨w.heap.size, 1, none⟩) (by show w.heap.size < _; omega)).trans p1
            match i, hi, ho with
            | 0, _, rfl =>
              exact .inl ⟨rfl, gives_value (v := .agg #[.slice A1 n1 c1, .bool false]) (w' := W) (by go_simp) ⟨Below.refl _ _, fun u hu => by cases hu; rfl⟩⟩
            | 1, _, rfl =>
              exact .inl ⟨rfl, gives_value (v := .bool true) (w' := W) (by go_simp) ⟨Below.refl _ _, fun u hu => by cases hu; rfl⟩⟩
            | 2, _, rfl =>
              have e1 : v1 = _ := hphi ⟨1, .data⟩ (by simp) rfl v1 rfl _ rfl
              subst e1
              exact .inl ⟨rfl, gives_value (v := .bool true) (w' := W) (by go_simp) ⟨Below.refl _ _, fun u hu => by cases hu; rfl⟩⟩
            | 3, _, rfl =>
              have e2 : v2 = _ := hphi ⟨2, .guard⟩ (by simp) rfl v2 rfl _ rfl
              subst e2
              exact .inl ⟨rfl, gives_value (v := .string s) (w' := W) (by go_simp) ⟨Below.refl _ _, fun u hu => by cases hu; rfl⟩⟩
            | 4, _, rfl =>
              have e3 : v3 = _ := hphi ⟨3, .data⟩ (by simp) rfl v3 rfl _ rfl
              have e2 : v2 = _ := hphi ⟨2, .guard⟩ (by simp) rfl v2 rfl _ rfl
              subst e2 e3
              refine .inl ⟨rfl, gives_call (f := 228) (args := #[.string s]) (by go_simp) ((rseen_any s W HWS.out).mono ?_)⟩
              rintro e W' ⟨rfl, rfl⟩
              exact ⟨_, rfl, Below.refl _ _, fun u hu => by cases hu; exact congrArg Value.bool HFB.out⟩
            | 5, _, rfl =>
              have e2 : v2 = _ := hphi ⟨2, .data⟩ (by simp) rfl v2 rfl _ rfl
              have e4 : v4 = _ := hphi ⟨4, .data⟩ (by simp) rfl v4 rfl _ rfl
              subst e2 e4
              exact .inl ⟨rfl, gives_value (v := .bool false) (w' := W) (by go_simp) ⟨Below.refl _ _, fun u hu => by cases hu; rfl⟩⟩
            | 6, _, rfl =>
              have e5 : v5 = _ := hphi ⟨5, .data⟩ (by simp) rfl v5 rfl _ rfl
              subst e5
              exact .inl ⟨rfl, gives_value (v := .bool false) (w' := W) (by go_simp) ⟨Below.refl _ _, fun u hu => by cases hu; rfl⟩⟩
            | 7, _, rfl =>
              have e6 : v6 = _ := hphi ⟨6, .guard⟩ (by simp) rfl v6 rfl _ rfl
              subst e6
              exact .inl ⟨rfl, gives_value (v := .bool true) (w' := W) (by go_simp) ⟨Below.refl _ _, fun u hu => by cases hu; rfl⟩⟩
            | 8, _, rfl =>
              have e7 : v7 = _ := hphi ⟨7, .data⟩ (by simp) rfl v7 rfl _ rfl
              have e6 : v6 = _ := hphi ⟨6, .guard⟩ (by simp) rfl v6 rfl _ rfl
              subst e6 e7
              exact .inl ⟨rfl, gives_value (v := .bool false) (w' := W) (by go_simp) ⟨Below.refl _ _, fun u hu => by cases hu; rfl⟩⟩
            | 9, _, rfl =>
              have e8 : v8 = _ := hphi ⟨8, .data⟩ (by simp) rfl v8 rfl _ rfl
              have e6 : v6 = _ := hphi ⟨6, .guard⟩ (by simp) rfl v6 rfl _ rfl
              subst e6 e8
              exact .inl ⟨rfl, gives_value (v := .bool false) (w' := W) (by go_simp) ⟨Below.refl _ _, fun u hu => by cases hu; rfl⟩⟩
            | 10, _, rfl =>
              have e9 : v9 = _ := hphi ⟨9, .guard⟩ (by simp) rfl v9 rfl _ rfl
              subst e9
              exact .inr ⟨rfl, Below.refl _ _, fun u hu => by cases hu; rfl⟩
            | 11, _, rfl =>
              have e10 : v10 = _ := hphi ⟨10, .data⟩ (by simp) rfl v10 rfl _ rfl
              have e9 : v9 = _ := hphi ⟨9, .guard⟩ (by simp) rfl v9 rfl _ rfl
              subst e9 e10
              exact .inr ⟨rfl, Below.refl _ _, fun u hu => by cases hu; rfl⟩
            | 12, _, rfl =>
              have e9 : v9 = _ := hphi ⟨9, .data⟩ (by simp) rfl v9 rfl _ rfl
              have e11 : v11 = _ := hphi ⟨11, .data⟩ (by simp) rfl v11 rfl _ rfl
              have e6 : v6 = _ := hphi ⟨6, .guard⟩ (by simp) rfl v6 rfl _ rfl
              subst e6 e9 e11
              exact .inl ⟨rfl, gives_value (v := .bool false) (w' := W) (by go_simp) ⟨Below.refl _ _, fun u hu => by cases hu; rfl⟩⟩
            | 13, _, rfl =>
              have e6 : v6 = _ := hphi ⟨6, .data⟩ (by simp) rfl v6 rfl _ rfl
              have e12 : v12 = _ := hphi ⟨12, .data⟩ (by simp) rfl v12 rfl _ rfl
              subst e6 e12
              exact .inl ⟨rfl, gives_value (v := .bool false) (w' := W) (by go_simp) ⟨Below.refl _ _, fun u hu => by cases hu; rfl⟩⟩
            | 14, _, rfl =>
              have e0 : v0 = _ := hphi ⟨0, .data⟩ (by simp) rfl v0 rfl _ rfl
              have e13 : v13 = _ := hphi ⟨13, .data⟩ (by simp) rfl v13 rfl _ rfl
              subst e0 e13
              refine .inl ⟨rfl, gives_call (f := 198) (args := #[.agg #[.slice A1 n1 c1, .bool false], .bool false]) (by go_simp) ((tnext_any A1 n1 c1 B us false false W (HSu.out.below hR (Nat.le_trans hB HBw2.out.size)) (Nat.le_trans hB (Nat.le_trans HBw2.out.size hR.size)) hc1 hn1).mono ?_)⟩
              rintro e W' ⟨v, rfl, hv2, hb2⟩
              exact ⟨_, rfl, hb2, ⟨hv2, Nat.le_trans hB (Nat.le_trans HBw2.out.size (Nat.le_trans hR.size hb2.size))⟩⟩
            | i + 15, hi, _ => exact absurd hi (by omega)
          case tailA =>
            intro vs W hv hR hphi
            obtain ⟨v0, v1, v2, v3, v4, v5, v6, v7, v8, v9, v10, v11, v12, v13, v14, rfl⟩ := ls15 hv
            simp only [List.zip, List.zipWith, putAll, Act.put, List.setIfInBounds_toArray, List.set, List.drop]
            have e0 : v0 = _ := hphi 0 v0 rfl _ rfl
            have e1 : v1 = _ := hphi 1 v1 rfl _ rfl
            have e2 : v2 = _ := hphi 2 v2 rfl _ rfl
            have e3 : v3 = _ := hphi 3 v3 rfl _ rfl
            have e4 : v4 = _ := hphi 4 v4 rfl _ rfl
            have e5 : v5 = _ := hphi 5 v5 rfl _ rfl
            have e6 : v6 = _ := hphi 6 v6 rfl _ rfl
            have e7 : v7 = _ := hphi 7 v7 rfl _ rfl
            have e8 : v8 = _ := hphi 8 v8 rfl _ rfl
            have e9 : v9 = _ := hphi 9 v9 rfl _ rfl
            have e10 : v10 = _ := hphi 10 v10 rfl _ rfl
            have e11 : v11 = _ := hphi 11 v11 rfl _ rfl
            have e12 : v12 = _ := hphi 12 v12 rfl _ rfl
            have e13 : v13 = _ := hphi 13 v13 rfl _ rfl
            have e14 : (TkW B (nxR (us, false) false)) v14 W := hphi 14 v14 rfl
            subst e0 e1 e2 e3 e4 e5 e6 e7 e8 e9 e10 e11 e12 e13
            clear hphi hv
            obtain ⟨⟨us2, bad2⟩, hnx⟩ : ∃ t : Rt, nxR (us, false) false = t := ⟨_, rfl⟩
            rw [hnx] at e14
            obtain ⟨⟨A2, n2, c2, rfl, hs2, hn2, hc2⟩, _⟩ := e14
            have HNX := Lib.hid hnx
            clear hnx
            have zR := hR.size
            have hK3 := Lib.hid (hK2.out.below hR hw2)
            have hK31 := Lib.hid (hK21.out.below hR (by omega))
            have hA3 := Lib.hid (hA2.out.below hR)
            have HBw3 : Hid (Below w.heap.size w W) := HBw2.out.trans (hR.mono HBw2.out.size)
            have HS2 := Lib.hid hs2
            clear hR hs2
            have p0 := hK3.out.cell 0; have p1 := hK3.out.cell 1
            simp at p0 p1
            have f0 := hK3.out.free 0; have f1 := hK3.out.free 1
            obtain ⟨W3, hW3⟩ : ∃ W3, (W.setCell ⟨w.heap.size, 0, none⟩ (.slice A2 n2 c2)).setCell ⟨w.heap.size, 1, none⟩ (.bool bad2) = W3 := ⟨_, rfl⟩
            have hK4 : Hid (Bk W3 w.heap.size 181 #[.slice A2 n2 c2, .bool bad2]) := by rw [← hW3]; exact hK3.out.set2 _ _
            have hK41 : Hid (Bk W3 (w.heap.size + 1) 181 #[.slice none 0 0, .bool false]) := by rw [← hW3]; exact (hK31.out.far (by show w.heap.size + 1 ≠ w.heap.size; omega) _).far (by show w.heap.size + 1 ≠ w.heap.size; omega) _
            have hA4 : Hid (Apd W3 (w.heap.size + 3) 9 1 A6 m c6 (strs l)) := by rw [← hW3]; exact (hA3.out.setCell (by show w.heap.size < w.heap.size + 3; omega) _).setCell (by show w.heap.size < w.heap.size + 3; omega) _
            have hS4 : Hid (Sl W3 B 2 A2 n2 (flat wdC us2)) := by rw [← hW3]; exact (HS2.out.setCell (by exact hB) _).setCell (by exact hB) _
            have HBw4 : Hid (Below w.heap.size w W3) := by rw [← hW3]; exact below_set2 HBw3.out (Nat.le_refl _) _ _
            have zW3 : W3.heap.size = W.heap.size := by rw [← hW3, set_size2, set_size2]
            have HW3 := Lib.hid hW3
            clear hW3 hK3 hK31 hA3 HS2 hK2 hK21 hA2
            have hmn1 : m + us.length ≤ n := by first | exact hmu rfl | exact hmu trivial
            go_wp2_with (at_builtin; refine halt_app (.tmp 46) (.tmp 48) 33 rfl ?_)
            refine unhalt ?_
            rw [HW3.out]
            refine wpList_append_apd (base := w.heap.size + 3) (size := 1) _ rfl (.tmp 46) (.tmp 48) 33 rfl 9 i0 _ 16 Tryz.underlying33 Hi.out Hz0.out Hz1.out Hz2.out rfl (by decide) A6 m c6 (strs l) rfl ?own_1 (W3.heap.size + 1) _ 1 _ [.string s] rfl ?nw_1 (by simp [Value.oneCell']) ?m1_1 ?m2_1 ?m3_1 ?_
            case own_1 => exact hA4.out.below ((Below.refl _ W3).alloc (Nat.le_refl _) _)
            case nw_1 =>
              refine ⟨rfl, fun _ => ⟨W.heap.size, 0, rfl, by omega, fun j u hu => ?_⟩⟩
              have := new_cell W3 9 s j u hu
              rw [zW3] at this
              rwa [Addr.add_lit] at this
            case m1_1 => unfold maxLen; omega
            case m2_1 => omega
            case m3_1 => simp; omega
            intro A7 c7 w4 ho4 hb4 hn4 hm4 hok4
            have HA4 : Hid (Apd w4 (w.heap.size + 3) 9 1 A7 (m + 1) c7 (strs (l ++ [s]))) := by show Apd _ _ _ _ _ _ _ _; rw [strs_sn]; exact ho4
            have HB5 : Hid (Below w.heap.size w w4) := (HBw4.out.alloc HBw4.out.size _).trans (hb4.mono (by omega))
            have hK5 := Lib.hid ((hK4.out.alloc (.cells #[.string s] 9)).below hb4 (by omega))
            have hK51 := Lib.hid ((hK41.out.alloc (.cells #[.string s] 9)).below hb4 (by omega))
            have hS5 := Lib.hid ((hS4.out.alloc (Nat.le_trans hB HBw4.out.size) (.cells #[.string s] 9)).below hb4 (by omega))
            have HLI : Hid (LInv viewB stV ws false (l ++ [s]) (us2, bad2)) := by
              have := LInv.step (v := viewB) (st := stV) (by decide) HLE.out
              rw [HSX.out, HFB.out, HNX.out] at this
              exact this
            have hU2 : Hid (∀ x ∈ us2, x ∈ ws) := fun x hx => hU.out x (nxR_mem (b := false) (f := false) (by rw [HNX.out]; exact hx))
            have hln := nxR_len us false
            rw [HNX.out] at hln
            have hz4 := hb4.size
            have hml : Hid (m + 1 = (l ++ [s]).length) := by show _ = _; rw [List.length_append, ← hm.out]; rfl
            rw [World.size_alloc] at hz4
            have hmu2 : bad2 = false → m + 1 + us2.length ≤ n := fun e => by have := hln.1 e; simp only at this; omega
            clear ho4 hb4 hok4 hln
            go_wp2_with fail
            go_roundw
            case rel => exact ⟨A7, m + 1, c7, l ++ [s], false, A2, n2, c2, us2, bad2, rfl, rfl, hml.out, hn4, hm4, HA4.out, hK5.out, hK51.out, hS5.out, hn2, hc2, hU2.out, hmu2, by omega, HLI.out, HB5.out, by omega⟩
            case measure => simp [lenV]; omega
end Go.Proofs.YtddlohbhchjjhaaGreatDoor

namespace Go.Proofs.YtddlohbhchjjhaaGreatDoor
open Go.RowKit Go.Shelf

def SlR (s : ByteArray) (z : Int) : Prop := (z = -1 ∧ ∀ j : Nat, (bl s)[j]? ≠ some 47) ∨ (0 ≤ z ∧ ∃ k : Nat, (bl s)[k]? = some 47)
theorem slR_idx {s : ByteArray} {z : Int} (h : SlR s z) : decide (z < 0) = !(decide (0 ≤ Lib.indexByte s.data.toList 47)) := by
  have hg := Lib.indexByte_ge s.data.toList 47
  rcases h with ⟨rfl, h⟩ | ⟨h1, k, hk⟩
  · have : ¬ 0 ≤ Lib.indexByte s.data.toList 47 := fun h0 => by
      obtain ⟨o, ho⟩ : ∃ o : Nat, Lib.indexByte s.data.toList 47 = o := ⟨(Lib.indexByte s.data.toList 47).toNat, by omega⟩
      exact h o (Lib.indexByte_some ho).1
    rw [decide_eq_false this]; rfl
  · have : 0 ≤ Lib.indexByte s.data.toList 47 := by
      refine Classical.byContradiction fun h0 => ?_
      have : Lib.indexByte s.data.toList 47 = -1 := by omega
      exact Lib.indexByte_none this k hk
    rw [decide_eq_true this, decide_eq_false (by omega)]; rfl
theorem slash38_any (s : ByteArray) (w : World) (hs : s.size ≤ 1000000) : Calls Tryz.prog 202 #[.string s] w fun e w' => (∃ z : Int, e = .returned (.int .i64 z) ∧ SlR s z) ∧ w = w' := by
  have hw0 : IntKind.i64.wrap ((s.size : Int) - 1) = (s.size : Int) - 1 := wrap_sm (by omega) (by omega)
  have HL := Lib.hid (size_len s)
  go_enter Tryz.func202, Tryz.ntmps202
  go_wp2_with fail
  go_loop [3] (fun i => ∃ k : Nat, k ≤ s.size ∧ i = .int .i64 ((k : Int) - 1) ∧ Hid (∀ j, k ≤ j → j < s.size → (bl s)[j]? ≠ some 47)) (fun i => (intOf i + 1).toNat)
  case atStart => exact ⟨s.size, Nat.le_refl _, rfl, fun j h1 h2 => by omega⟩
  case round =>
    obtain ⟨k, hk, rfl, hN⟩ := hrel
    cases k with
    | zero =>
      have HF : Hid (∀ j : Nat, (bl s)[j]? ≠ some 47) := fun j hj => by
        have hjl : j < s.size := by have := (List.getElem?_eq_some_iff.1 hj).1; have h2 := HL.out; unfold bl at this; omega
        exact hN.out j (Nat.zero_le _) hjl hj
      go_wp2_with fail
      go_ret
      exact ⟨⟨_, rfl, .inl ⟨rfl, HF.out⟩⟩, rfl⟩
    | succ k =>
      have hks : k < s.size := by omega
      have e0 : ((k + 1 : Nat) : Int) - 1 = (k : Int) := by omega
      rw [e0]
      have hp : ¬ (k : Int) < 0 := by omega
      have hp0 : (0 : Int) ≤ (k : Int) := by omega
      have hl : (k : Int) < (s.size : Int) := by omega
      have hg := Lib.hid (get_data s k hks)
      by_cases h47 : s[k] = 47
      · have t1 : (((s[k].toNat : Nat) : Int) == 47) = true := by simp [h47]
        have HF : Hid ((bl s)[k]? = some 47) := by show s.data.toList[k]? = _; rw [hg.out, h47]
        clear h47 hN e0
        go_wp2_with fail
        go_ret
        exact ⟨⟨_, rfl, .inr ⟨by omega, k, HF.out⟩⟩, rfl⟩
      · have t1 : (((s[k].toNat : Nat) : Int) == 47) = false := by
          rw [beq_eq_false_iff_ne]; intro e
          apply h47
          apply UInt8.toNat_inj.1
          show s[k].toNat = 47
          omega
        have HN2 : Hid (∀ j, k ≤ j → j < s.size → (bl s)[j]? ≠ some 47) := fun j h1 h2 => by
          rcases Nat.eq_or_lt_of_le h1 with e | e
          · subst e; show s.data.toList[k]? ≠ _; rw [hg.out]; intro e2; exact h47 (Option.some.inj e2)
          · exact hN.out j (by omega) h2
        have hw1 : IntKind.i64.wrap ((k : Int) - 1) = (k : Int) - 1 := wrap_sm (by omega) (by omega)
        clear h47 hN e0
        go_wp2_with fail
        go_round
        case rel => exact ⟨k, by omega, by first | rfl | go_num, HN2.out⟩
        case measure => simp [intOf] <;> omega
theorem name38_any (s : ByteArray) (w : World) (hs : s.size ≤ 1000000) : Calls Tryz.prog 156 #[.string s] w fun e w' => e = .returned (.bool (namT s)) ∧ w = w' := by
  have HLB := Lib.hid (rlabel_any s w (by unfold maxLen; omega))
  have HSL := Lib.hid (slash38_any s w hs)
  have HNT : Hid (namT s = (labB s && !(decide (0 ≤ Lib.indexByte s.data.toList 47)))) := rfl
  generalize labB s = lb at HLB HNT
  go_enter Tryz.func156, Tryz.ntmps156
  cases lb with
  | false =>
    go_wp2_with (go_at_call 99; refine HLB.out.mono ?_; rintro e w1 ⟨rfl, rfl⟩)
    go_ret
    exact ⟨ret_bool (by rw [HNT.out]; rfl), rfl⟩
  | true =>
    go_wp2_with (go_at_call 99; refine HLB.out.mono ?_; rintro e w1 ⟨rfl, rfl⟩; refine halt_ ?_)
    refine unhalt ?_
    go_wp2_with fail
    refine HSL.out.mono ?_
    rintro e w1 ⟨⟨z, rfl, hz⟩, rfl⟩
    have HZ := Lib.hid (slR_idx hz)
    clear hz
    by_cases hz0 : z < 0
    · rw [decide_eq_true hz0] at HZ
      go_wp2_with fail
      go_ret
      exact ⟨ret_bool (by rw [HNT.out, ← HZ.out]; rfl), rfl⟩
    · rw [decide_eq_false hz0] at HZ
      go_wp2_with fail
      go_ret
      exact ⟨ret_bool (by rw [HNT.out, ← HZ.out, decide_eq_false (Int.not_lt.2 hz0)]; rfl), rfl⟩
-- JOIN
set_option maxHeartbeats 1000000 in
theorem rjoin_any (d n : ByteArray) (w : World) (hd : d.size ≤ 1000000) (hn : n.size ≤ 1000000) : Calls Tryz.prog 101 #[.string d, .string n] w (JoiEnd d n w) := by
  have hdm : d.size ≤ maxLen := by unfold maxLen; omega
  have hnm : n.size ≤ maxLen := by unfold maxLen; omega
  have h1 : (d.toList == []) = decide (d = ⟨#[]⟩) := str_lit d _
  go_enter Tryz.func101, Tryz.ntmps101
  by_cases e1 : d = ⟨#[]⟩
  · rw [decide_eq_true e1] at h1
    cases hnt : namT n with
    | false =>
      have HE : Hid (joiE d n = 6) := if_pos (.inr hnt)
      have HT := Lib.hid hnt
      clear hnt e1
      go_wp2_with (go_at_call 156; refine (name38_any _ _ hn).mono ?_; rintro e w1 ⟨rfl, rfl⟩; rw [HT.out])
      go_ret2
      exact JoiEnd.no HE.out (by decide) (Below.refl _ _)
    | true =>
      have HE : Hid (joiE d n = 0) := by show _ = _; unfold joiE; rw [if_neg (by rw [hnt]; simp [e1]), if_pos e1]
      have HS : Hid (joiS d n = n) := if_pos e1
      have HT := Lib.hid hnt
      clear hnt e1
      go_wp2_with (go_at_call 156; refine (name38_any _ _ hn).mono ?_; rintro e w1 ⟨rfl, rfl⟩; rw [HT.out])
      go_ret2
      exact JoiEnd.yes HE.out HS.out (Below.refl _ _)
  · rw [decide_eq_false e1] at h1
    cases hl : labB d with
    | false =>
      have HE : Hid (joiE d n = 6) := if_pos (.inl ⟨e1, hl⟩)
      have HL := Lib.hid hl
      clear hl e1
      go_wp2_with (go_at_call 99; refine (rlabel_any _ _ hdm).mono ?_; rintro e w1 ⟨rfl, rfl⟩; rw [HL.out])
      go_ret2
      exact JoiEnd.no HE.out (by decide) (Below.refl _ _)
    | true =>
      have HL := Lib.hid hl
      cases hnt : namT n with
      | false =>
        have HE : Hid (joiE d n = 6) := if_pos (.inr hnt)
        have HT := Lib.hid hnt
        clear hnt e1 hl
        go_wp2_with (first
          | (go_at_call 99; refine (rlabel_any _ _ hdm).mono ?_; rintro e w1 ⟨rfl, rfl⟩; rw [HL.out])
          | (go_at_call 156; refine (name38_any _ _ hn).mono ?_; rintro e w2 ⟨rfl, rfl⟩; rw [HT.out]))
        go_ret2
        exact JoiEnd.no HE.out (by decide) (Below.refl _ _)
      | true =>
        have HT := Lib.hid hnt
        have HE0 : Hid (joiE d n = if labB (d ++ slW ++ n) = false then 4 else 0) := by show _ = _; unfold joiE; rw [if_neg (by rw [hnt, hl]; simp), if_neg e1]
        have HS : Hid (joiS d n = d ++ slW ++ n) := if_neg e1
        have hcat : ¬ (9223372036854775807 < d.size + (⟨#[47]⟩ : ByteArray).size) := by
          have : (⟨#[47]⟩ : ByteArray).size = 1 := rfl
          omega
        have hsz : (d ++ (⟨#[47]⟩ : ByteArray)).size = d.size + 1 := by rw [ByteArray.size_append]; rfl
        have hcat2 : ¬ (9223372036854775807 < (d ++ (⟨#[47]⟩ : ByteArray)).size + n.size) := by omega
        have hsz2 : (d ++ (⟨#[47]⟩ : ByteArray) ++ n).size ≤ maxLen := by rw [ByteArray.size_append, hsz]; unfold maxLen; omega
        obtain ⟨full, hfull⟩ : ∃ full, d ++ (⟨#[47]⟩ : ByteArray) ++ n = full := ⟨_, rfl⟩
        have HFU := Lib.hid hfull
        have HFU2 : Hid (d ++ slW ++ n = full) := hfull
        rw [HFU2.out] at HE0 HS
        rw [hfull] at hsz2
        clear hnt e1 hl hsz hfull
        cases hlf : labB full with
        | false =>
          have HE : Hid (joiE d n = 4) := by show _ = _; rw [HE0.out, if_pos hlf]
          have HLF := Lib.hid hlf
          clear hlf HE0
          go_wp2_with (first
            | (go_at_call 156; refine (name38_any _ _ hn).mono ?_; rintro e w2 ⟨rfl, rfl⟩; rw [HT.out]; refine halt_ ?_)
            | (go_at_call 99; refine (rlabel_any _ _ hdm).mono ?_; rintro e w1 ⟨rfl, rfl⟩; rw [HL.out]))
          refine unhalt ?_
          go_wp2_with (go_at_call 99; rw [HFU.out]; refine (rlabel_any _ _ hsz2).mono ?_; rintro e w3 ⟨rfl, rfl⟩; rw [HLF.out])
          go_ret2
          exact JoiEnd.no HE.out (by decide) (Below.refl _ _)
        | true =>
          have HE : Hid (joiE d n = 0) := by show _ = _; rw [HE0.out, if_neg (by rw [hlf]; decide)]
          have HLF := Lib.hid hlf
          clear hlf HE0
          go_wp2_with (first
            | (go_at_call 156; refine (name38_any _ _ hn).mono ?_; rintro e w2 ⟨rfl, rfl⟩; rw [HT.out]; refine halt_ ?_)
            | (go_at_call 99; refine (rlabel_any _ _ hdm).mono ?_; rintro e w1 ⟨rfl, rfl⟩; rw [HL.out]))
          refine unhalt ?_
          go_wp2_with (go_at_call 99; rw [HFU.out]; refine (rlabel_any _ _ hsz2).mono ?_; rintro e w3 ⟨rfl, rfl⟩; rw [HLF.out])
          go_ret2
          exact JoiEnd.yes HE.out (by rw [HS.out, ← HFU.out]) (Below.refl _ _)
end Go.Proofs.YtddlohbhchjjhaaGreatDoor
