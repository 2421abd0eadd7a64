/-
  Lemmas: The reference's reader of build files: a rule. The reference's words of a build file. The reference's Check of rules.
-/
import Derived.Deep.QuietTactic
import Derived.BigQuiet
import Derived.Test.YtddlohbhchjjhaaGreatDoorU13

namespace Go.Proofs.YtddlohbhchjjhaaGreatDoor
open Go.RowKit Go.Shelf

theorem Bk.set4r {w : World} {b : Nat} {x y z u : Value} (h : Bk w b 60 #[x, y, z, u]) : (∀ v, Bk (w.setCell ⟨b, 0, none⟩ v) b 60 #[v, y, z, u]) ∧ (∀ v, Bk (w.setCell ⟨b, 1, none⟩ v) b 60 #[x, v, z, u]) ∧ (∀ v, Bk (w.setCell ⟨b, 2, none⟩ v) b 60 #[x, y, v, u]) ∧ (∀ v, Bk (w.setCell ⟨b, 3, none⟩ v) b 60 #[x, y, z, v]) :=
  ⟨fun v => (by have := h.set 0 v; simpa using this), fun v => (by have := h.set 1 v; simpa using this), fun v => (by have := h.set 2 v; simpa using this), fun v => (by have := h.set 3 v; simpa using this)⟩
structure RSx (B : Nat) (t : Rt) (k : Int) (nm : ByteArray) (ds vs : List ByteArray) (w W : World) (A : Option Addr) (n c : Nat) (dA : Option Addr) (dn dc : Nat) (vA : Option Addr) (vn vc : Nat) : Prop where
  box : Bk W w.heap.size 181 #[.slice A n c, .bool t.2]
  sl : Sl W B 2 A n (flat wdC t.1)
  le : n ≤ c
  max : c ≤ maxLen
  rule : Bk W (w.heap.size + 3) 60 #[.int .i64 k, .string nm, .slice dA dn dc, .slice vA vn vc]
  d : W.ownsRow (w.heap.size + 4) 9 1 (.slice dA dn dc) dn (strs ds)
  v : W.ownsRow (w.heap.size + 4) 9 1 (.slice vA vn vc) vn (strs vs)
  r1 : Bk W (w.heap.size + 1) 60 #[.int .i64 0, .string ⟨#[]⟩, .slice none 0 0, .slice none 0 0]
  r2 : Bk W (w.heap.size + 2) 181 #[.slice none 0 0, .bool false]
  below : Below w.heap.size w W
  size : w.heap.size + 4 ≤ W.heap.size
section
variable {B : Nat} {t : Rt} {k : Int} {nm : ByteArray} {ds vs : List ByteArray} {w W W' : World} {A : Option Addr} {n c : Nat} {dA : Option Addr} {dn dc : Nat} {vA : Option Addr} {vn vc : Nat}
theorem RSx.step (h : RSx B t k nm ds vs w W A n c dA dn dc vA vn vc) (hb : Below W.heap.size W W') (hB : B ≤ w.heap.size) : RSx B t k nm ds vs w W' A n c dA dn dc vA vn vc := by
  have hz := h.size
  exact ⟨h.box.below hb (by omega), h.sl.below hb (by omega), h.le, h.max, h.rule.below hb (by omega), own_keep h.d (fun j hj => hb.block j (h.d.lt j hj).2), own_keep h.v (fun j hj => hb.block j (h.v.lt j hj).2), h.r1.below hb (by omega), h.r2.below hb (by omega), h.below.trans (hb.mono (by omega)), Nat.le_trans hz hb.size⟩
theorem RSx.setT {t' : Rt} {A' : Option Addr} {n' c' : Nat} (h : RSx B t k nm ds vs w W A n c dA dn dc vA vn vc) (hB : B ≤ w.heap.size) (hs : Sl W B 2 A' n' (flat wdC t'.1)) (hn : n' ≤ c') (hc : c' ≤ maxLen) : RSx B t' k nm ds vs w ((W.setCell ⟨w.heap.size, 0, none⟩ (.slice A' n' c')).setCell ⟨w.heap.size, 1, none⟩ (.bool t'.2)) A' n' c' dA dn dc vA vn vc := by
  refine ⟨h.box.set2 _ _, (hs.setCell (by exact hB) _).setCell (by exact hB) _, hn, hc, (h.rule.far (by show w.heap.size + 3 ≠ w.heap.size; omega) _).far (by show w.heap.size + 3 ≠ w.heap.size; omega) _, ownsRow_setCell_below (ownsRow_setCell_below h.d (by show w.heap.size < _; omega) _) (by show w.heap.size < _; omega) _, ownsRow_setCell_below (ownsRow_setCell_below h.v (by show w.heap.size < _; omega) _) (by show w.heap.size < _; omega) _, (h.r1.far (by show w.heap.size + 1 ≠ w.heap.size; omega) _).far (by show w.heap.size + 1 ≠ w.heap.size; omega) _, (h.r2.far (by show w.heap.size + 2 ≠ w.heap.size; omega) _).far (by show w.heap.size + 2 ≠ w.heap.size; omega) _, below_set2 h.below (Nat.le_refl _) _ _, by rw [set_size2, set_size2]; exact h.size⟩
theorem RSx.setR {k' : Int} {nm' : ByteArray} {ds' vs' : List ByteArray} {dA' vA' : Option Addr} {dn' dc' vn' vc' i : Nat} {u : Value} (h : RSx B t k nm ds vs w W A n c dA dn dc vA vn vc) (hB : B ≤ w.heap.size) (hr : Bk (W.setCell ⟨w.heap.size + 3, i, none⟩ u) (w.heap.size + 3) 60 #[.int .i64 k', .string nm', .slice dA' dn' dc', .slice vA' vn' vc'])
    (hd : W.ownsRow (w.heap.size + 4) 9 1 (.slice dA' dn' dc') dn' (strs ds')) (hv : W.ownsRow (w.heap.size + 4) 9 1 (.slice vA' vn' vc') vn' (strs vs')) : RSx B t k' nm' ds' vs' w (W.setCell ⟨w.heap.size + 3, i, none⟩ u) A n c dA' dn' dc' vA' vn' vc' := by
  refine ⟨h.box.far (by show w.heap.size ≠ w.heap.size + 3; omega) _, h.sl.setCell (by show B ≤ w.heap.size + 3; omega) _, h.le, h.max, hr, ownsRow_setCell_below hd (by show w.heap.size + 3 < _; omega) _, ownsRow_setCell_below hv (by show w.heap.size + 3 < _; omega) _, h.r1.far (by show w.heap.size + 1 ≠ w.heap.size + 3; omega) _, h.r2.far (by show w.heap.size + 2 ≠ w.heap.size + 3; omega) _, h.below.setCell (by show w.heap.size ≤ w.heap.size + 3; omega) _, by rw [set_size2]; exact h.size⟩
end
theorem Bk.all4 {w : World} {b : Nat} {x y z u : Value} (h : Bk w b 60 #[x, y, z, u]) (x' y' z' u' : Value) : Bk ((((w.setCell ⟨b, 0, none⟩ x').setCell ⟨b, 1, none⟩ y').setCell ⟨b, 2, none⟩ z').setCell ⟨b, 3, none⟩ u') b 60 #[x', y', z', u'] := ((((h.set4r.1 x').set4r.2.1 y').set4r.2.2.1 z').set4r.2.2.2 u')
theorem below_all4 {B b : Nat} {w w' : World} (h : Below B w w') (hb : B ≤ b) (x y z u : Value) : Below B w ((((w'.setCell ⟨b, 0, none⟩ x).setCell ⟨b, 1, none⟩ y).setCell ⟨b, 2, none⟩ z).setCell ⟨b, 3, none⟩ u) := (((h.setCell hb x).setCell hb y).setCell hb z).setCell hb u
theorem res_rule {fn : Func} {i c : Tmp} (h : fn.results = #[.cell i 60, .cell c 181]) {w : World} {a : Array Value} {b b2 : Nat} {x y z u p q : Value} (hv : a[i]?.getD undef = .pointer (some ⟨b, 0, none⟩)) (ha : a[c]?.getD undef = .pointer (some ⟨b2, 0, none⟩)) (hr : Bk w b 60 #[x, y, z, u]) (hk : Bk w b2 181 #[p, q]) :
    (results fn a).run Tryz.prog w = .ok (.tuple #[.agg #[x, y, z, u], .agg #[p, q]]) w := by
  have h0 := hk.cell 0; have h1 := hk.cell 1
  have g0 := hr.cell 0; have g1 := hr.cell 1; have g2 := hr.cell 2; have g3 := hr.cell 3
  simp at h0 h1 g0 g1 g2 g3
  simp [results, h, ha, hv, go_sem, h0, h1, g0, g1, g2, g3]
def TrEnd (B : Nat) (ws : List Wd) (w : World) (e : Ending) (w' : World) : Prop :=
  ∃ dA dn dc vA vn vc v, e = .returned (.tuple #[.agg #[.int .i64 (rlR ws).1.1, .string (rlR ws).1.2.1, .slice dA dn dc, .slice vA vn vc], v]) ∧ w'.ownsRow (w.heap.size + 4) 9 1 (.slice dA dn dc) dn (strs (rlR ws).1.2.2.1) ∧ w'.ownsRow (w.heap.size + 4) 9 1 (.slice vA vn vc) vn (strs (rlR ws).1.2.2.2) ∧ TkV B (rlR ws).2 v w' ∧ Below w.heap.size w w'
theorem isR_true {t : Rt} {s : ByteArray} (h : isR t s = true) : t.2 = false ∧ nxR t true = (t.1.tail, false) := by
  unfold isR at h
  obtain ⟨us, bad⟩ := t
  cases bad with
  | true => cases h
  | false =>
    refine ⟨rfl, if_neg ?_⟩
    cases us with
    | nil => cases h
    | cons x r => simp
theorem nxR_suf (t : Rt) (f : Bool) : (nxR t f).1 <:+ t.1 := by
  unfold nxR
  split
  · exact List.suffix_refl _
  · exact List.tail_suffix _
theorem lsR_suf (v st : ByteArray → Bool) : ∀ ws : List Wd, (lsR v st ws).2.1 <:+ ws
  | [] => List.suffix_refl _
  | x :: ws => by
    simp only [lsR]
    split
    · split
      · exact List.suffix_cons _ _
      · exact (lsR_suf v st ws).trans (List.suffix_cons _ _)
    · exact List.suffix_refl _
theorem depR_suf (t : Rt) : (depR t).2.1 <:+ t.1 := by
  unfold depR
  split
  · exact (lsR_suf _ _ _).trans (List.tail_suffix _)
  · exact List.suffix_refl _
theorem visR_suf (t : Rt) : (visR t).2.1 <:+ t.1 := by
  unfold visR
  split
  · exact (lsR_suf _ _ _).trans (List.tail_suffix _)
  · exact List.suffix_refl _
theorem wdR_size {t : Rt} {m : Nat} (h : ∀ x ∈ t.1, x.1.size ≤ m) : (wdR t).size ≤ m := by
  unfold wdR
  split
  · exact Nat.zero_le _
  · cases hu : t.1 with
    | nil => exact Nat.zero_le _
    | cons x r => exact h x (by rw [hu]; simp)

set_option maxRecDepth 100000 in
set_option maxHeartbeats 32000000 in
theorem trule_any (A : Option Addr) (n c B : Nat) (ws : List Wd) (w : World) (h : Sl w B 2 A n (flat wdC ws)) (hB : B ≤ w.heap.size) (hn : n ≤ c) (hc : c ≤ maxLen) (hs : ∀ x ∈ ws, x.1.size ≤ 1000000) (hw : n ≤ 1000000) :
    Calls Tryz.prog 155 #[.agg #[.slice A n c, .bool false]] w (TrEnd B ws w) := by
  have HSZ := Lib.hid hs
  have HLW := Lib.hid (h.len wdC_len (by omega))
  obtain ⟨W0, hW0⟩ : ∃ W0, w.alloc (.cells #[.slice A n c, .bool false] 181) = W0 := ⟨_, rfl⟩
  obtain ⟨W1, hW1⟩ : ∃ W1, W0.alloc (.cells #[.int .i64 0, .string ⟨#[]⟩, .slice none 0 0, .slice none 0 0] 60) = W1 := ⟨_, rfl⟩
  obtain ⟨W2, hW2⟩ : ∃ W2, W1.alloc (.cells #[.slice none 0 0, .bool false] 181) = W2 := ⟨_, rfl⟩
  obtain ⟨W3, hW3⟩ : ∃ W3, W2.alloc (.cells #[.int .i64 1, .string ⟨#[]⟩, .slice none 0 0, .slice none 0 0] 60) = W3 := ⟨_, rfl⟩
  have zW0 : W0.heap.size = w.heap.size + 1 := by rw [← hW0]; simp
  have zW1 : W1.heap.size = w.heap.size + 2 := by rw [← hW1]; simp [zW0]
  have zW2 : W2.heap.size = w.heap.size + 3 := by rw [← hW2]; simp [zW1]
  have zW3 : W3.heap.size = w.heap.size + 4 := by rw [← hW3]; simp [zW2]
  have HR0 : Hid (RSx B (ws, false) 1 ⟨#[]⟩ [] [] w W3 A n c none 0 0 none 0 0) := by
    have hb : Below w.heap.size w W3 := by rw [← hW3, ← hW2, ← hW1, ← hW0]; exact ((((Below.refl _ w).alloc (Nat.le_refl _) _).alloc (by simp) _).alloc (by simp; omega) _).alloc (by simp; omega) _
    refine ⟨?_, h.below hb hB, hn, hc, ?_, World.ownsRow_nil _ _ _ _, World.ownsRow_nil _ _ _ _, ?_, ?_, hb, by omega⟩
    · rw [← hW3, ← hW2, ← hW1, ← hW0]; exact (((Bk.new w _ _).alloc _).alloc _).alloc _
    · rw [← hW3]; have := Bk.new W2 60 #[.int .i64 1, .string ⟨#[]⟩, .slice none 0 0, .slice none 0 0]; rwa [zW2] at this
    · rw [← hW3, ← hW2, ← hW1]; have := ((Bk.new W0 60 #[.int .i64 0, .string ⟨#[]⟩, .slice none 0 0, .slice none 0 0]).alloc (.cells #[.slice none 0 0, .bool false] 181)).alloc (.cells #[.int .i64 1, .string ⟨#[]⟩, .slice none 0 0, .slice none 0 0] 60); rwa [zW0] at this
    · rw [← hW3, ← hW2]; have := (Bk.new W1 181 #[.slice none 0 0, .bool false]).alloc (.cells #[.int .i64 1, .string ⟨#[]⟩, .slice none 0 0, .slice none 0 0] 60); rwa [zW1] at this
  clear h hs
  obtain ⟨bt, hbt⟩ : ∃ bt, isR (ws, false) testW = bt := ⟨_, rfl⟩
  obtain ⟨bl, hbl⟩ : ∃ bl, isR (ws, false) libW = bl := ⟨_, rfl⟩
  obtain ⟨kd, hkd⟩ : ∃ kd : Int, kd = if bt = true then 2 else 1 := ⟨_, rfl⟩
  have HKD := Lib.hid hkd
  have HT1 : Hid (t1R ws = nxR (ws, false) (bl || bt)) := by show _ = _; unfold t1R; rw [hbl, hbt]
  have HIT0 : Hid (∀ W, Below W3.heap.size W3 W → Calls Tryz.prog 197 #[.agg #[.slice A n c, .bool false], .string testW] W fun e w' => e = .returned (.bool bt) ∧ Below W.heap.size W w') := fun W hb => by
    have := tis_any A n c B ws false testW W (HR0.out.sl.below hb (by omega)) (by have := hb.size; omega) hc hn
    rwa [hbt] at this
  have HKE : Hid ((rlR ws).1 = (kd, wdR (t1R ws), (depR (t2R ws)).1, (visR (depR (t2R ws)).2).1)) := by
    show _ = _
    unfold rlR; rw [hbt, hkd]
  have hbt0 := Lib.hid hbt
  clear hbt hkd
  have HITg : Hid (∀ W, Sl W B 2 A n (flat wdC ws) → B ≤ W.heap.size → Calls Tryz.prog 197 #[.agg #[.slice A n c, .bool false], .string testW] W fun e w' => e = .returned (.bool bt) ∧ Below W.heap.size W w') := fun W hb hz => by
    have := tis_any A n c B ws false testW W hb hz hc hn
    rwa [hbt0.out] at this
  unfold testW at HIT0 HITg
  have y0 := HR0.out.box.cell 0; have y1 := HR0.out.box.cell 1
  simp at y0 y1
  rw [← hW3] at y0 y1
  have HW3 := Lib.hid hW3
  clear hW3
  go_enter Tryz.func155, Tryz.ntmps155
  go_upto_if 7 with (go_at_call 197; rw [HW3.out]; refine (HIT0.out W3 (Below.refl _ _)).mono ?_; rintro e w4 ⟨rfl, hb4⟩)
  have HR1 := Lib.hid (HR0.out.step hb4 hB)
  have HB34 := Lib.hid hb4
  clear hW0 hW1 hW2 y0 y1 hb4
  go_cut [] from 8 to 8 (fun wx => Hid (RSx B (ws, false) kd ⟨#[]⟩ [] [] w wx A n c none 0 0 none 0 0))
  case first =>
    have q0 := HR1.out.rule.cell 0; have f0 := HR1.out.rule.free 0
    simp at q0
    cases bt with
    | true =>
      have e : Hid (kd = 2) := HKD.out.trans (if_pos rfl)
      go_wp2_with fail
      go_meet
      show RSx _ _ _ _ _ _ _ _ _ _ _ _ _ _ _ _ _
      rw [e.out]
      exact HR1.out.setR hB (HR1.out.rule.set4r.1 _) HR1.out.d HR1.out.v
    | false =>
      have e : Hid (kd = 1) := HKD.out.trans (if_neg (by simp))
      go_wp2_with fail
      go_meet
      show RSx _ _ _ _ _ _ _ _ _ _ _ _ _ _ _ _ _
      rw [e.out]
      exact HR1.out
  case rest =>
    have HR2 := Lib.hid hcut.out
    have z2 := HR2.out.size
    clear HR0 HR1 HB34 hcut
    obtain ⟨w2, hww⟩ : ∃ W, W = wc := ⟨_, rfl⟩
    subst hww
    have p0 := HR2.out.box.cell 0; have p1 := HR2.out.box.cell 1
    simp at p0 p1
    have HIT : Hid (∀ W, Below w2.heap.size w2 W → Calls Tryz.prog 197 #[.agg #[.slice A n c, .bool false], .string ⟨#[116, 101, 115, 116]⟩] W fun e w' => e = .returned (.bool bt) ∧ Below W.heap.size W w') := fun W hb => HITg.out W (HR2.out.sl.below hb (by omega)) (by have := hb.size; omega)
    go_upto_region 4 with fail
    go_cut [] from 9 to 16 (fun wx => Hid (∃ A n c, RSx B (t1R ws) kd ⟨#[]⟩ [] [] w wx A n c none 0 0 none 0 0))
    case first =>
      have hz1 : w.heap.size < w2.heap.size := by omega
      cases bl with
      | true =>
        have HIL : Hid (∀ W, Below w2.heap.size w2 W → Calls Tryz.prog 197 #[.agg #[.slice A n c, .bool false], .string libW] W fun e w' => e = .returned (.bool true) ∧ Below W.heap.size W w') := fun W hb => by
          have := tis_any A n c B ws false libW W (HR2.out.sl.below hb (by omega)) (by have := hb.size; omega) hc hn
          rwa [hbl] at this
        unfold libW at HIL
        clear hbl
        have HSP : Hid (∀ x ∈ [(7, TkW B (nxR (ws, false) true))], ∀ v W W', x.2 v W → Below W.heap.size W W' → x.2 v W') := fun x hx v W W' h hb => by
          rw [List.mem_singleton.1 hx] at h ⊢
          exact TkW.on h hb
        refine wp_region_stableGD 8 (9 :: 10 :: 11 :: 12 :: 13 :: 14 :: 15 :: 16 :: []) (by kernel_rfl) (by kernel_rfl) (by kernel_rfl) (fun W => Below w2.heap.size w2 W) (fun W W' => Below W.heap.size W W')
          (gPhi [(7, TkW B (nxR (ws, false) true))] ((.agg #[.slice A n c, .bool false]) :: (.agg #[.slice A n c, .bool false]) :: (.bool true) :: (.bool true) :: (undef) :: (undef) :: (.bool true) :: (undef) :: [])) (fun W W' h1 h2 => h1.trans (h2.mono h1.size)) (fun i v W W' h hb => gPhi_keep HSP.out i v W W' h hb) (Below.refl _ _).drew ?stepA ?tailA
        case stepA =>
          intro i o vs W hi ho hv hR hphi
          obtain ⟨v0, v1, v2, v3, v4, v5, v6, v7, rfl⟩ := ls8 hv
          simp only [List.zip, List.zipWith, putAll, Act.put, List.setIfInBounds_toArray, List.set]
          have hWz := hR.size
          have t0 := (hR.cell (p := ⟨w.heap.size, 0, none⟩) (by show w.heap.size < _; omega)).trans p0
          have t1 := (hR.cell (p := ⟨w.heap.size, 1, none⟩) (by show w.heap.size < _; omega)).trans p1
          match i, hi, ho with
          | 0, _, rfl =>
            exact .inl ⟨rfl, gives_value (v := .agg #[.slice A n c, .bool false]) (w' := W) (by go_simp) ⟨Below.refl _ _, fun u hu => by cases hu; rfl⟩⟩
          | 1, _, rfl =>
            exact .inl ⟨rfl, gives_value (v := .agg #[.slice A n c, .bool false]) (w' := W) (by go_simp) ⟨Below.refl _ _, fun u hu => by cases hu; rfl⟩⟩
          | 2, _, rfl =>
            have e1 : v1 = _ := hphi ⟨1, .data⟩ (by simp) rfl v1 rfl _ rfl
            subst e1
            refine .inl ⟨rfl, gives_call (f := 197) (args := #[.agg #[.slice A n c, .bool false], .string ⟨#[108, 105, 98]⟩]) (by go_simp) (((HIL.out W hR)).mono ?_)⟩
            rintro e W' ⟨rfl, hb2⟩
            exact ⟨_, rfl, hb2, fun u hu => by cases hu; rfl⟩
          | 3, _, rfl =>
            have e2 : v2 = _ := hphi ⟨2, .data⟩ (by simp) rfl v2 rfl _ rfl
            subst e2
            exact .inl ⟨rfl, gives_value (v := .bool true) (w' := W) (by go_simp) ⟨Below.refl _ _, fun u hu => by cases hu; rfl⟩⟩
          | 4, _, rfl =>
            have e3 : v3 = _ := hphi ⟨3, .guard⟩ (by simp) rfl v3 rfl _ rfl
            subst e3
            exact .inr ⟨rfl, Below.refl _ _, fun u hu => by cases hu; rfl⟩
          | 5, _, rfl =>
            have e4 : v4 = _ := hphi ⟨4, .data⟩ (by simp) rfl v4 rfl _ rfl
            have e3 : v3 = _ := hphi ⟨3, .guard⟩ (by simp) rfl v3 rfl _ rfl
            subst e3 e4
            exact .inr ⟨rfl, Below.refl _ _, fun u hu => by cases hu; rfl⟩
          | 6, _, rfl =>
            have e3 : v3 = _ := hphi ⟨3, .data⟩ (by simp) rfl v3 rfl _ rfl
            have e5 : v5 = _ := hphi ⟨5, .data⟩ (by simp) rfl v5 rfl _ rfl
            subst e3 e5
            exact .inl ⟨rfl, gives_value (v := .bool true) (w' := W) (by go_simp) ⟨Below.refl _ _, fun u hu => by cases hu; rfl⟩⟩
          | 7, _, rfl =>
            have e0 : v0 = _ := hphi ⟨0, .data⟩ (by simp) rfl v0 rfl _ rfl
            have e6 : v6 = _ := hphi ⟨6, .data⟩ (by simp) rfl v6 rfl _ rfl
            subst e0 e6
            refine .inl ⟨rfl, gives_call (f := 198) (args := #[.agg #[.slice A n c, .bool false], .bool true]) (by go_simp) ((tnext_any A n c B ws false true W (HR2.out.sl.below hR (by omega)) (by have := hR.size; omega) HR2.out.max HR2.out.le).mono ?_)⟩
            rintro e W' ⟨v, rfl, hv2, hb2⟩
            exact ⟨_, rfl, hb2, ⟨hv2, by have := hR.size; have := hb2.size; omega⟩⟩
          | i + 8, hi, _ => exact absurd hi (by omega)
        case tailA =>
          intro vs W hv hR hphi
          obtain ⟨v0, v1, v2, v3, v4, v5, v6, v7, rfl⟩ := ls8 hv
          simp only [List.zip, List.zipWith, putAll, Act.put, List.setIfInBounds_toArray, List.set, List.drop]
          have e0 : v0 = _ := hphi 0 v0 rfl _ rfl
          have e1 : v1 = _ := hphi 1 v1 rfl _ rfl
          have e2 : v2 = _ := hphi 2 v2 rfl _ rfl
          have e3 : v3 = _ := hphi 3 v3 rfl _ rfl
          have e4 : v4 = _ := hphi 4 v4 rfl _ rfl
          have e5 : v5 = _ := hphi 5 v5 rfl _ rfl
          have e6 : v6 = _ := hphi 6 v6 rfl _ rfl
          have e7 : (TkW B (nxR (ws, false) true)) v7 W := hphi 7 v7 rfl
          subst e0 e1 e2 e3 e4 e5 e6
          clear hphi hv
          obtain ⟨⟨A2, n2, c2, rfl, hs2, hn2, hc2⟩, _⟩ := e7
          have HRW := Lib.hid (HR2.out.step hR hB)
          have HS2 := Lib.hid hs2
          clear hs2 hR p0 p1
          have p0 := HRW.out.box.cell 0; have p1 := HRW.out.box.cell 1
          simp at p0 p1
          have f0 := HRW.out.box.free 0; have f1 := HRW.out.box.free 1
          have HX := Lib.hid (HRW.out.setT hB HS2.out hn2 hc2)
          have HT2 : Hid (t1R ws = nxR (ws, false) true) := by rw [HT1.out]; rfl
          go_wp2_with fail
          go_meet
          rw [HT2.out]
          exact ⟨A2, n2, c2, HX.out⟩
      | false =>
        have HIL : Hid (∀ W, Below w2.heap.size w2 W → Calls Tryz.prog 197 #[.agg #[.slice A n c, .bool false], .string libW] W fun e w' => e = .returned (.bool false) ∧ Below W.heap.size W w') := fun W hb => by
          have := tis_any A n c B ws false libW W (HR2.out.sl.below hb (by omega)) (by have := hb.size; omega) hc hn
          rwa [hbl] at this
        unfold libW at HIL
        clear hbl
        have HSP : Hid (∀ x ∈ [(7, TkW B (nxR (ws, false) bt))], ∀ v W W', x.2 v W → Below W.heap.size W W' → x.2 v W') := fun x hx v W W' h hb => by
          rw [List.mem_singleton.1 hx] at h ⊢
          exact TkW.on h hb
        refine wp_region_stableGD 8 (9 :: 10 :: 11 :: 12 :: 13 :: 14 :: 15 :: 16 :: []) (by kernel_rfl) (by kernel_rfl) (by kernel_rfl) (fun W => Below w2.heap.size w2 W) (fun W W' => Below W.heap.size W W')
          (gPhi [(7, TkW B (nxR (ws, false) bt))] ((.agg #[.slice A n c, .bool false]) :: (.agg #[.slice A n c, .bool false]) :: (.bool false) :: (.bool false) :: (.agg #[.slice A n c, .bool false]) :: (.bool bt) :: (.bool bt) :: (undef) :: [])) (fun W W' h1 h2 => h1.trans (h2.mono h1.size)) (fun i v W W' h hb => gPhi_keep HSP.out i v W W' h hb) (Below.refl _ _).drew ?stepA ?tailA
        case stepA =>
          intro i o vs W hi ho hv hR hphi
          obtain ⟨v0, v1, v2, v3, v4, v5, v6, v7, rfl⟩ := ls8 hv
          simp only [List.zip, List.zipWith, putAll, Act.put, List.setIfInBounds_toArray, List.set]
          have hWz := hR.size
          have t0 := (hR.cell (p := ⟨w.heap.size, 0, none⟩) (by show w.heap.size < _; omega)).trans p0
          have t1 := (hR.cell (p := ⟨w.heap.size, 1, none⟩) (by show w.heap.size < _; omega)).trans p1
          match i, hi, ho with
          | 0, _, rfl =>
            exact .inl ⟨rfl, gives_value (v := .agg #[.slice A n c, .bool false]) (w' := W) (by go_simp) ⟨Below.refl _ _, fun u hu => by cases hu; rfl⟩⟩
          | 1, _, rfl =>
            exact .inl ⟨rfl, gives_value (v := .agg #[.slice A n c, .bool false]) (w' := W) (by go_simp) ⟨Below.refl _ _, fun u hu => by cases hu; rfl⟩⟩
          | 2, _, rfl =>
            have e1 : v1 = _ := hphi ⟨1, .data⟩ (by simp) rfl v1 rfl _ rfl
            subst e1
            refine .inl ⟨rfl, gives_call (f := 197) (args := #[.agg #[.slice A n c, .bool false], .string ⟨#[108, 105, 98]⟩]) (by go_simp) (((HIL.out W hR)).mono ?_)⟩
            rintro e W' ⟨rfl, hb2⟩
            exact ⟨_, rfl, hb2, fun u hu => by cases hu; rfl⟩
          | 3, _, rfl =>
            have e2 : v2 = _ := hphi ⟨2, .data⟩ (by simp) rfl v2 rfl _ rfl
            subst e2
            exact .inl ⟨rfl, gives_value (v := .bool false) (w' := W) (by go_simp) ⟨Below.refl _ _, fun u hu => by cases hu; rfl⟩⟩
          | 4, _, rfl =>
            have e3 : v3 = _ := hphi ⟨3, .guard⟩ (by simp) rfl v3 rfl _ rfl
            subst e3
            exact .inl ⟨rfl, gives_value (v := .agg #[.slice A n c, .bool false]) (w' := W) (by go_simp) ⟨Below.refl _ _, fun u hu => by cases hu; rfl⟩⟩
          | 5, _, rfl =>
            have e4 : v4 = _ := hphi ⟨4, .data⟩ (by simp) rfl v4 rfl _ rfl
            have e3 : v3 = _ := hphi ⟨3, .guard⟩ (by simp) rfl v3 rfl _ rfl
            subst e3 e4
            refine .inl ⟨rfl, gives_call (f := 197) (args := #[.agg #[.slice A n c, .bool false], .string ⟨#[116, 101, 115, 116]⟩]) (by go_simp) (((HIT.out W hR)).mono ?_)⟩
            rintro e W' ⟨rfl, hb2⟩
            exact ⟨_, rfl, hb2, fun u hu => by cases hu; rfl⟩
          | 6, _, rfl =>
            have e3 : v3 = _ := hphi ⟨3, .data⟩ (by simp) rfl v3 rfl _ rfl
            have e5 : v5 = _ := hphi ⟨5, .data⟩ (by simp) rfl v5 rfl _ rfl
            subst e3 e5
            exact .inl ⟨rfl, gives_value (v := .bool bt) (w' := W) (by go_simp) ⟨Below.refl _ _, fun u hu => by cases hu; rfl⟩⟩
          | 7, _, rfl =>
            have e0 : v0 = _ := hphi ⟨0, .data⟩ (by simp) rfl v0 rfl _ rfl
            have e6 : v6 = _ := hphi ⟨6, .data⟩ (by simp) rfl v6 rfl _ rfl
            subst e0 e6
            refine .inl ⟨rfl, gives_call (f := 198) (args := #[.agg #[.slice A n c, .bool false], .bool bt]) (by go_simp) ((tnext_any A n c B ws false bt W (HR2.out.sl.below hR (by omega)) (by have := hR.size; omega) HR2.out.max HR2.out.le).mono ?_)⟩
            rintro e W' ⟨v, rfl, hv2, hb2⟩
            exact ⟨_, rfl, hb2, ⟨hv2, by have := hR.size; have := hb2.size; omega⟩⟩
          | i + 8, hi, _ => exact absurd hi (by omega)
        case tailA =>
          intro vs W hv hR hphi
          obtain ⟨v0, v1, v2, v3, v4, v5, v6, v7, rfl⟩ := ls8 hv
          simp only [List.zip, List.zipWith, putAll, Act.put, List.setIfInBounds_toArray, List.set, List.drop]
          have e0 : v0 = _ := hphi 0 v0 rfl _ rfl
          have e1 : v1 = _ := hphi 1 v1 rfl _ rfl
          have e2 : v2 = _ := hphi 2 v2 rfl _ rfl
          have e3 : v3 = _ := hphi 3 v3 rfl _ rfl
          have e4 : v4 = _ := hphi 4 v4 rfl _ rfl
          have e5 : v5 = _ := hphi 5 v5 rfl _ rfl
          have e6 : v6 = _ := hphi 6 v6 rfl _ rfl
          have e7 : (TkW B (nxR (ws, false) bt)) v7 W := hphi 7 v7 rfl
          subst e0 e1 e2 e3 e4 e5 e6
          clear hphi hv
          obtain ⟨⟨A2, n2, c2, rfl, hs2, hn2, hc2⟩, _⟩ := e7
          have HRW := Lib.hid (HR2.out.step hR hB)
          have HS2 := Lib.hid hs2
          clear hs2 hR p0 p1
          have p0 := HRW.out.box.cell 0; have p1 := HRW.out.box.cell 1
          simp at p0 p1
          have f0 := HRW.out.box.free 0; have f1 := HRW.out.box.free 1
          have HX := Lib.hid (HRW.out.setT hB HS2.out hn2 hc2)
          have HT2 : Hid (t1R ws = nxR (ws, false) bt) := by rw [HT1.out]; rfl
          go_wp2_with fail
          go_meet
          rw [HT2.out]
          exact ⟨A2, n2, c2, HX.out⟩
    case rest =>
      obtain ⟨A1, n1, c1, hr1⟩ := hcut.out
      have HR3 := Lib.hid hr1
      clear hr1 HR2 hcut p0 p1 HT1
      obtain ⟨w3, hww⟩ : ∃ W, W = wc := ⟨_, rfl⟩
      subst hww
      obtain ⟨⟨us1, bad1⟩, ht1⟩ : ∃ t : Rt, t1R ws = t := ⟨_, rfl⟩
      rw [ht1] at HR3
      have HT1 := Lib.hid ht1
      have hsf1 : Hid (us1 <:+ ws) := by
        have : (t1R ws).1 <:+ ws := nxR_suf (ws, false) _
        rwa [ht1] at this
      have hus1 : Hid (∀ x ∈ us1, x ∈ ws) := fun x hx => hsf1.out.subset hx
      clear ht1
      have z3 := HR3.out.size
      have p0 := HR3.out.box.cell 0; have p1 := HR3.out.box.cell 1
      simp at p0 p1
      have HWD := Lib.hid (tword_any A1 n1 c1 B us1 bad1 w3 HR3.out.sl (by omega) HR3.out.max HR3.out.le)
      obtain ⟨nm, hnm⟩ : ∃ nm, wdR (us1, bad1) = nm := ⟨_, rfl⟩
      rw [hnm] at HWD
      have HNM := Lib.hid hnm
      have hnz : nm.size ≤ 1000000 := by rw [← hnm]; exact wdR_size fun x hx => HSZ.out x (hus1.out x hx)
      clear hnm
      have k0 := HR3.out.rule.cell 0; have k1 := HR3.out.rule.cell 1
      simp at k0 k1
      go_wp2_with fail
      refine HWD.out.mono ?_
      rintro e w4 ⟨rfl, hb4⟩
      have HR4 := Lib.hid (HR3.out.step hb4 hB)
      clear hb4 HWD HR3 p0 p1 k0 k1
      have k1 := HR4.out.rule.cell 1; have f1 := HR4.out.rule.free 1
      simp at k1
      obtain ⟨w5, hw5⟩ : ∃ w5, w4.setCell ⟨w.heap.size + 3, 1, none⟩ (.string nm) = w5 := ⟨_, rfl⟩
      have HR5 : Hid (RSx B (us1, bad1) kd nm [] [] w w5 A1 n1 c1 none 0 0 none 0 0) := by rw [← hw5]; exact HR4.out.setR hB (HR4.out.rule.set4r.2.1 _) HR4.out.d HR4.out.v
      have z5 := HR5.out.size
      have p0 := HR5.out.box.cell 0; have p1 := HR5.out.box.cell 1; have k5 := HR5.out.rule.cell 1
      simp at p0 p1 k5
      have hz1 : w.heap.size < w5.heap.size := by omega
      have hz3 : w.heap.size + 3 < w5.heap.size := by omega
      obtain ⟨nb, hnb⟩ : ∃ nb, namT nm = nb := ⟨_, rfl⟩
      obtain ⟨rb, hrb⟩ : ∃ rb, resB nm = rb := ⟨_, rfl⟩
      have HNB : Hid (∀ W, Calls Tryz.prog 156 #[.string nm] W fun e w' => e = .returned (.bool nb) ∧ W = w') := fun W => by rw [← hnb]; exact name38_any nm W hnz
      have HRB : Hid (∀ W, Calls Tryz.prog 200 #[.string nm] W fun e w' => e = .returned (.bool rb) ∧ W = w') := fun W => by rw [← hrb]; exact rreserved_any nm W
      have HT2 : Hid (t2R ws = nxR (us1, bad1) (nb && !rb)) := by
        show _ = _
        unfold t2R; rw [HT1.out, HNM.out]; unfold freB; rw [hnb, hrb]
      clear hnb hrb
      go_upto_region 6 with fail
      go_cut [] from 20 to 30 (fun wx => Hid (∃ A n c, RSx B (t2R ws) kd nm [] [] w wx A n c none 0 0 none 0 0))
      case first =>
        clear hw5
        cases nb with
        | false =>
          have HSP : Hid (∀ x ∈ [(10, TkW B (nxR (us1, bad1) false))], ∀ v W W', x.2 v W → Below W.heap.size W W' → x.2 v W') := fun x hx v W W' h hb => by
            rw [List.mem_singleton.1 hx] at h ⊢
            exact TkW.on h hb
          refine wp_region_stableGD 11 (20 :: 21 :: 22 :: 23 :: 24 :: 25 :: 26 :: 27 :: 28 :: 29 :: 30 :: []) (by kernel_rfl) (by kernel_rfl) (by kernel_rfl) (fun W => Below w5.heap.size w5 W) (fun W W' => Below W.heap.size W W')
            (gPhi [(10, TkW B (nxR (us1, bad1) false))] ((.agg #[.slice A1 n1 c1, .bool bad1]) :: (.pointer (some ⟨w.heap.size + 3, 1, none⟩)) :: (.string nm) :: (.bool false) :: (.bool false) :: (undef) :: (undef) :: (undef) :: (undef) :: (.bool false) :: (undef) :: [])) (fun W W' h1 h2 => h1.trans (h2.mono h1.size)) (fun i v W W' h hb => gPhi_keep HSP.out i v W W' h hb) (Below.refl _ _).drew ?stepA ?tailA
          case stepA =>
            intro i o vs W hi ho hv hR hphi
            obtain ⟨v0, v1, v2, v3, v4, v5, v6, v7, v8, v9, v10, rfl⟩ := ls11 hv
            simp only [List.zip, List.zipWith, putAll, Act.put, List.setIfInBounds_toArray, List.set]
            have hWz := hR.size
            have t0 := (hR.cell (p := ⟨w.heap.size, 0, none⟩) (by show w.heap.size < _; omega)).trans p0
            have t1 := (hR.cell (p := ⟨w.heap.size, 1, none⟩) (by show w.heap.size < _; omega)).trans p1
            have n1f := (hR.cell (p := ⟨w.heap.size + 3, 1, none⟩) (by show w.heap.size + 3 < _; omega)).trans k5
            match i, hi, ho with
            | 0, _, rfl =>
              exact .inl ⟨rfl, gives_value (v := .agg #[.slice A1 n1 c1, .bool bad1]) (w' := W) (by go_simp) ⟨Below.refl _ _, fun u hu => by cases hu; rfl⟩⟩
            | 1, _, rfl =>
              exact .inl ⟨rfl, gives_value (v := .pointer (some ⟨w.heap.size + 3, 1, none⟩)) (w' := W) (by go_simp) ⟨Below.refl _ _, fun u hu => by cases hu; rfl⟩⟩
            | 2, _, rfl =>
              have e1 : v1 = _ := hphi ⟨1, .data⟩ (by simp) rfl v1 rfl _ rfl
              subst e1
              exact .inl ⟨rfl, gives_value (v := .string nm) (w' := W) (by go_simp) ⟨Below.refl _ _, fun u hu => by cases hu; rfl⟩⟩
            | 3, _, rfl =>
              have e2 : v2 = _ := hphi ⟨2, .data⟩ (by simp) rfl v2 rfl _ rfl
              subst e2
              refine .inl ⟨rfl, gives_call (f := 156) (args := #[.string nm]) (by go_simp) (((HNB.out W)).mono ?_)⟩
              rintro e W' ⟨rfl, rfl⟩
              exact ⟨_, rfl, Below.refl _ _, fun u hu => by cases hu; rfl⟩
            | 4, _, rfl =>
              have e3 : v3 = _ := hphi ⟨3, .data⟩ (by simp) rfl v3 rfl _ rfl
              subst e3
              exact .inl ⟨rfl, gives_value (v := .bool false) (w' := W) (by go_simp) ⟨Below.refl _ _, fun u hu => by cases hu; rfl⟩⟩
            | 5, _, rfl =>
              have e4 : v4 = _ := hphi ⟨4, .guard⟩ (by simp) rfl v4 rfl _ rfl
              subst e4
              exact .inr ⟨rfl, Below.refl _ _, fun u hu => by cases hu; rfl⟩
            | 6, _, rfl =>
              have e5 : v5 = _ := hphi ⟨5, .data⟩ (by simp) rfl v5 rfl _ rfl
              have e4 : v4 = _ := hphi ⟨4, .guard⟩ (by simp) rfl v4 rfl _ rfl
              subst e4 e5
              exact .inr ⟨rfl, Below.refl _ _, fun u hu => by cases hu; rfl⟩
            | 7, _, rfl =>
              have e6 : v6 = _ := hphi ⟨6, .data⟩ (by simp) rfl v6 rfl _ rfl
              have e4 : v4 = _ := hphi ⟨4, .guard⟩ (by simp) rfl v4 rfl _ rfl
              subst e4 e6
              exact .inr ⟨rfl, Below.refl _ _, fun u hu => by cases hu; rfl⟩
            | 8, _, rfl =>
              have e7 : v7 = _ := hphi ⟨7, .data⟩ (by simp) rfl v7 rfl _ rfl
              have e4 : v4 = _ := hphi ⟨4, .guard⟩ (by simp) rfl v4 rfl _ rfl
              subst e4 e7
              exact .inr ⟨rfl, Below.refl _ _, fun u hu => by cases hu; rfl⟩
            | 9, _, rfl =>
              have e4 : v4 = _ := hphi ⟨4, .data⟩ (by simp) rfl v4 rfl _ rfl
              have e8 : v8 = _ := hphi ⟨8, .data⟩ (by simp) rfl v8 rfl _ rfl
              subst e4 e8
              exact .inl ⟨rfl, gives_value (v := .bool false) (w' := W) (by go_simp) ⟨Below.refl _ _, fun u hu => by cases hu; rfl⟩⟩
            | 10, _, rfl =>
              have e0 : v0 = _ := hphi ⟨0, .data⟩ (by simp) rfl v0 rfl _ rfl
              have e9 : v9 = _ := hphi ⟨9, .data⟩ (by simp) rfl v9 rfl _ rfl
              subst e0 e9
              refine .inl ⟨rfl, gives_call (f := 198) (args := #[.agg #[.slice A1 n1 c1, .bool bad1], .bool false]) (by go_simp) ((tnext_any A1 n1 c1 B us1 bad1 false W (HR5.out.sl.below hR (by omega)) (by have := hR.size; omega) HR5.out.max HR5.out.le).mono ?_)⟩
              rintro e W' ⟨v, rfl, hv2, hb2⟩
              exact ⟨_, rfl, hb2, ⟨hv2, by have := hR.size; have := hb2.size; omega⟩⟩
            | i + 11, hi, _ => exact absurd hi (by omega)
          case tailA =>
            intro vs W hv hR hphi
            obtain ⟨v0, v1, v2, v3, v4, v5, v6, v7, v8, v9, v10, rfl⟩ := ls11 hv
            simp only [List.zip, List.zipWith, putAll, Act.put, List.setIfInBounds_toArray, List.set, List.drop]
            have e0 : v0 = _ := hphi 0 v0 rfl _ rfl
            have e1 : v1 = _ := hphi 1 v1 rfl _ rfl
            have e2 : v2 = _ := hphi 2 v2 rfl _ rfl
            have e3 : v3 = _ := hphi 3 v3 rfl _ rfl
            have e4 : v4 = _ := hphi 4 v4 rfl _ rfl
            have e5 : v5 = _ := hphi 5 v5 rfl _ rfl
            have e6 : v6 = _ := hphi 6 v6 rfl _ rfl
            have e7 : v7 = _ := hphi 7 v7 rfl _ rfl
            have e8 : v8 = _ := hphi 8 v8 rfl _ rfl
            have e9 : v9 = _ := hphi 9 v9 rfl _ rfl
            have e10 : (TkW B (nxR (us1, bad1) false)) v10 W := hphi 10 v10 rfl
            subst e0 e1 e2 e3 e4 e5 e6 e7 e8 e9
            clear hphi hv
            obtain ⟨⟨A2, n2, c2, rfl, hs2, hn2, hc2⟩, _⟩ := e10
            have HRW := Lib.hid (HR5.out.step hR hB)
            have HS2 := Lib.hid hs2
            clear hs2 hR p0 p1 k5 k1 f1
            have p0 := HRW.out.box.cell 0; have p1 := HRW.out.box.cell 1
            simp at p0 p1
            have f0 := HRW.out.box.free 0; have f1 := HRW.out.box.free 1
            have HX := Lib.hid (HRW.out.setT hB HS2.out hn2 hc2)
            have HTX : Hid (t2R ws = nxR (us1, bad1) false) := by rw [HT2.out]; rfl
            go_wp2_with fail
            go_meet
            rw [HTX.out]
            exact ⟨A2, n2, c2, HX.out⟩
        | true =>
          cases rb with
          | true =>
            have HSP : Hid (∀ x ∈ [(10, TkW B (nxR (us1, bad1) false))], ∀ v W W', x.2 v W → Below W.heap.size W W' → x.2 v W') := fun x hx v W W' h hb => by
              rw [List.mem_singleton.1 hx] at h ⊢
              exact TkW.on h hb
            refine wp_region_stableGD 11 (20 :: 21 :: 22 :: 23 :: 24 :: 25 :: 26 :: 27 :: 28 :: 29 :: 30 :: []) (by kernel_rfl) (by kernel_rfl) (by kernel_rfl) (fun W => Below w5.heap.size w5 W) (fun W W' => Below W.heap.size W W')
              (gPhi [(10, TkW B (nxR (us1, bad1) false))] ((.agg #[.slice A1 n1 c1, .bool bad1]) :: (.pointer (some ⟨w.heap.size + 3, 1, none⟩)) :: (.string nm) :: (.bool true) :: (.bool true) :: (.pointer (some ⟨w.heap.size + 3, 1, none⟩)) :: (.string nm) :: (.bool true) :: (.bool false) :: (.bool false) :: (undef) :: [])) (fun W W' h1 h2 => h1.trans (h2.mono h1.size)) (fun i v W W' h hb => gPhi_keep HSP.out i v W W' h hb) (Below.refl _ _).drew ?stepA ?tailA
            case stepA =>
              intro i o vs W hi ho hv hR hphi
              obtain ⟨v0, v1, v2, v3, v4, v5, v6, v7, v8, v9, v10, rfl⟩ := ls11 hv
              simp only [List.zip, List.zipWith, putAll, Act.put, List.setIfInBounds_toArray, List.set]
              have hWz := hR.size
              have t0 := (hR.cell (p := ⟨w.heap.size, 0, none⟩) (by show w.heap.size < _; omega)).trans p0
              have t1 := (hR.cell (p := ⟨w.heap.size, 1, none⟩) (by show w.heap.size < _; omega)).trans p1
              have n1f := (hR.cell (p := ⟨w.heap.size + 3, 1, none⟩) (by show w.heap.size + 3 < _; omega)).trans k5
              match i, hi, ho with
              | 0, _, rfl =>
                exact .inl ⟨rfl, gives_value (v := .agg #[.slice A1 n1 c1, .bool bad1]) (w' := W) (by go_simp) ⟨Below.refl _ _, fun u hu => by cases hu; rfl⟩⟩
              | 1, _, rfl =>
                exact .inl ⟨rfl, gives_value (v := .pointer (some ⟨w.heap.size + 3, 1, none⟩)) (w' := W) (by go_simp) ⟨Below.refl _ _, fun u hu => by cases hu; rfl⟩⟩
              | 2, _, rfl =>
                have e1 : v1 = _ := hphi ⟨1, .data⟩ (by simp) rfl v1 rfl _ rfl
                subst e1
                exact .inl ⟨rfl, gives_value (v := .string nm) (w' := W) (by go_simp) ⟨Below.refl _ _, fun u hu => by cases hu; rfl⟩⟩
              | 3, _, rfl =>
                have e2 : v2 = _ := hphi ⟨2, .data⟩ (by simp) rfl v2 rfl _ rfl
                subst e2
                refine .inl ⟨rfl, gives_call (f := 156) (args := #[.string nm]) (by go_simp) (((HNB.out W)).mono ?_)⟩
                rintro e W' ⟨rfl, rfl⟩
                exact ⟨_, rfl, Below.refl _ _, fun u hu => by cases hu; rfl⟩
              | 4, _, rfl =>
                have e3 : v3 = _ := hphi ⟨3, .data⟩ (by simp) rfl v3 rfl _ rfl
                subst e3
                exact .inl ⟨rfl, gives_value (v := .bool true) (w' := W) (by go_simp) ⟨Below.refl _ _, fun u hu => by cases hu; rfl⟩⟩
              | 5, _, rfl =>
                have e4 : v4 = _ := hphi ⟨4, .guard⟩ (by simp) rfl v4 rfl _ rfl
                subst e4
                exact .inl ⟨rfl, gives_value (v := .pointer (some ⟨w.heap.size + 3, 1, none⟩)) (w' := W) (by go_simp) ⟨Below.refl _ _, fun u hu => by cases hu; rfl⟩⟩
              | 6, _, rfl =>
                have e5 : v5 = _ := hphi ⟨5, .data⟩ (by simp) rfl v5 rfl _ rfl
                have e4 : v4 = _ := hphi ⟨4, .guard⟩ (by simp) rfl v4 rfl _ rfl
                subst e4 e5
                exact .inl ⟨rfl, gives_value (v := .string nm) (w' := W) (by go_simp) ⟨Below.refl _ _, fun u hu => by cases hu; rfl⟩⟩
              | 7, _, rfl =>
                have e6 : v6 = _ := hphi ⟨6, .data⟩ (by simp) rfl v6 rfl _ rfl
                have e4 : v4 = _ := hphi ⟨4, .guard⟩ (by simp) rfl v4 rfl _ rfl
                subst e4 e6
                refine .inl ⟨rfl, gives_call (f := 200) (args := #[.string nm]) (by go_simp) (((HRB.out W)).mono ?_)⟩
                rintro e W' ⟨rfl, rfl⟩
                exact ⟨_, rfl, Below.refl _ _, fun u hu => by cases hu; rfl⟩
              | 8, _, rfl =>
                have e7 : v7 = _ := hphi ⟨7, .data⟩ (by simp) rfl v7 rfl _ rfl
                have e4 : v4 = _ := hphi ⟨4, .guard⟩ (by simp) rfl v4 rfl _ rfl
                subst e4 e7
                exact .inl ⟨rfl, gives_value (v := .bool false) (w' := W) (by go_simp) ⟨Below.refl _ _, fun u hu => by cases hu; rfl⟩⟩
              | 9, _, rfl =>
                have e4 : v4 = _ := hphi ⟨4, .data⟩ (by simp) rfl v4 rfl _ rfl
                have e8 : v8 = _ := hphi ⟨8, .data⟩ (by simp) rfl v8 rfl _ rfl
                subst e4 e8
                exact .inl ⟨rfl, gives_value (v := .bool false) (w' := W) (by go_simp) ⟨Below.refl _ _, fun u hu => by cases hu; rfl⟩⟩
              | 10, _, rfl =>
                have e0 : v0 = _ := hphi ⟨0, .data⟩ (by simp) rfl v0 rfl _ rfl
                have e9 : v9 = _ := hphi ⟨9, .data⟩ (by simp) rfl v9 rfl _ rfl
                subst e0 e9
                refine .inl ⟨rfl, gives_call (f := 198) (args := #[.agg #[.slice A1 n1 c1, .bool bad1], .bool false]) (by go_simp) ((tnext_any A1 n1 c1 B us1 bad1 false W (HR5.out.sl.below hR (by omega)) (by have := hR.size; omega) HR5.out.max HR5.out.le).mono ?_)⟩
                rintro e W' ⟨v, rfl, hv2, hb2⟩
                exact ⟨_, rfl, hb2, ⟨hv2, by have := hR.size; have := hb2.size; omega⟩⟩
              | i + 11, hi, _ => exact absurd hi (by omega)
            case tailA =>
              intro vs W hv hR hphi
              obtain ⟨v0, v1, v2, v3, v4, v5, v6, v7, v8, v9, v10, rfl⟩ := ls11 hv
              simp only [List.zip, List.zipWith, putAll, Act.put, List.setIfInBounds_toArray, List.set, List.drop]
              have e0 : v0 = _ := hphi 0 v0 rfl _ rfl
              have e1 : v1 = _ := hphi 1 v1 rfl _ rfl
              have e2 : v2 = _ := hphi 2 v2 rfl _ rfl
              have e3 : v3 = _ := hphi 3 v3 rfl _ rfl
              have e4 : v4 = _ := hphi 4 v4 rfl _ rfl
              have e5 : v5 = _ := hphi 5 v5 rfl _ rfl
              have e6 : v6 = _ := hphi 6 v6 rfl _ rfl
              have e7 : v7 = _ := hphi 7 v7 rfl _ rfl
              have e8 : v8 = _ := hphi 8 v8 rfl _ rfl
              have e9 : v9 = _ := hphi 9 v9 rfl _ rfl
              have e10 : (TkW B (nxR (us1, bad1) false)) v10 W := hphi 10 v10 rfl
              subst e0 e1 e2 e3 e4 e5 e6 e7 e8 e9
              clear hphi hv
              obtain ⟨⟨A2, n2, c2, rfl, hs2, hn2, hc2⟩, _⟩ := e10
              have HRW := Lib.hid (HR5.out.step hR hB)
              have HS2 := Lib.hid hs2
              clear hs2 hR p0 p1 k5 k1 f1
              have p0 := HRW.out.box.cell 0; have p1 := HRW.out.box.cell 1
              simp at p0 p1
              have f0 := HRW.out.box.free 0; have f1 := HRW.out.box.free 1
              have HX := Lib.hid (HRW.out.setT hB HS2.out hn2 hc2)
              have HTX : Hid (t2R ws = nxR (us1, bad1) false) := by rw [HT2.out]; rfl
              go_wp2_with fail
              go_meet
              rw [HTX.out]
              exact ⟨A2, n2, c2, HX.out⟩
          | false =>
            have HSP : Hid (∀ x ∈ [(10, TkW B (nxR (us1, bad1) true))], ∀ v W W', x.2 v W → Below W.heap.size W W' → x.2 v W') := fun x hx v W W' h hb => by
              rw [List.mem_singleton.1 hx] at h ⊢
              exact TkW.on h hb
            refine wp_region_stableGD 11 (20 :: 21 :: 22 :: 23 :: 24 :: 25 :: 26 :: 27 :: 28 :: 29 :: 30 :: []) (by kernel_rfl) (by kernel_rfl) (by kernel_rfl) (fun W => Below w5.heap.size w5 W) (fun W W' => Below W.heap.size W W')
              (gPhi [(10, TkW B (nxR (us1, bad1) true))] ((.agg #[.slice A1 n1 c1, .bool bad1]) :: (.pointer (some ⟨w.heap.size + 3, 1, none⟩)) :: (.string nm) :: (.bool true) :: (.bool true) :: (.pointer (some ⟨w.heap.size + 3, 1, none⟩)) :: (.string nm) :: (.bool false) :: (.bool true) :: (.bool true) :: (undef) :: [])) (fun W W' h1 h2 => h1.trans (h2.mono h1.size)) (fun i v W W' h hb => gPhi_keep HSP.out i v W W' h hb) (Below.refl _ _).drew ?stepA ?tailA
            case stepA =>
              intro i o vs W hi ho hv hR hphi
              obtain ⟨v0, v1, v2, v3, v4, v5, v6, v7, v8, v9, v10, rfl⟩ := ls11 hv
              simp only [List.zip, List.zipWith, putAll, Act.put, List.setIfInBounds_toArray, List.set]
              have hWz := hR.size
              have t0 := (hR.cell (p := ⟨w.heap.size, 0, none⟩) (by show w.heap.size < _; omega)).trans p0
              have t1 := (hR.cell (p := ⟨w.heap.size, 1, none⟩) (by show w.heap.size < _; omega)).trans p1
              have n1f := (hR.cell (p := ⟨w.heap.size + 3, 1, none⟩) (by show w.heap.size + 3 < _; omega)).trans k5
              match i, hi, ho with
              | 0, _, rfl =>
                exact .inl ⟨rfl, gives_value (v := .agg #[.slice A1 n1 c1, .bool bad1]) (w' := W) (by go_simp) ⟨Below.refl _ _, fun u hu => by cases hu; rfl⟩⟩
              | 1, _, rfl =>
                exact .inl ⟨rfl, gives_value (v := .pointer (some ⟨w.heap.size + 3, 1, none⟩)) (w' := W) (by go_simp) ⟨Below.refl _ _, fun u hu => by cases hu; rfl⟩⟩
              | 2, _, rfl =>
                have e1 : v1 = _ := hphi ⟨1, .data⟩ (by simp) rfl v1 rfl _ rfl
                subst e1
                exact .inl ⟨rfl, gives_value (v := .string nm) (w' := W) (by go_simp) ⟨Below.refl _ _, fun u hu => by cases hu; rfl⟩⟩
              | 3, _, rfl =>
                have e2 : v2 = _ := hphi ⟨2, .data⟩ (by simp) rfl v2 rfl _ rfl
                subst e2
                refine .inl ⟨rfl, gives_call (f := 156) (args := #[.string nm]) (by go_simp) (((HNB.out W)).mono ?_)⟩
                rintro e W' ⟨rfl, rfl⟩
                exact ⟨_, rfl, Below.refl _ _, fun u hu => by cases hu; rfl⟩
              | 4, _, rfl =>
                have e3 : v3 = _ := hphi ⟨3, .data⟩ (by simp) rfl v3 rfl _ rfl
                subst e3
                exact .inl ⟨rfl, gives_value (v := .bool true) (w' := W) (by go_simp) ⟨Below.refl _ _, fun u hu => by cases hu; rfl⟩⟩
              | 5, _, rfl =>
                have e4 : v4 = _ := hphi ⟨4, .guard⟩ (by simp) rfl v4 rfl _ rfl
                subst e4
                exact .inl ⟨rfl, gives_value (v := .pointer (some ⟨w.heap.size + 3, 1, none⟩)) (w' := W) (by go_simp) ⟨Below.refl _ _, fun u hu => by cases hu; rfl⟩⟩
              | 6, _, rfl =>
                have e5 : v5 = _ := hphi ⟨5, .data⟩ (by simp) rfl v5 rfl _ rfl
                have e4 : v4 = _ := hphi ⟨4, .guard⟩ (by simp) rfl v4 rfl _ rfl
                subst e4 e5
                exact .inl ⟨rfl, gives_value (v := .string nm) (w' := W) (by go_simp) ⟨Below.refl _ _, fun u hu => by cases hu; rfl⟩⟩
              | 7, _, rfl =>
                have e6 : v6 = _ := hphi ⟨6, .data⟩ (by simp) rfl v6 rfl _ rfl
                have e4 : v4 = _ := hphi ⟨4, .guard⟩ (by simp) rfl v4 rfl _ rfl
                subst e4 e6
                refine .inl ⟨rfl, gives_call (f := 200) (args := #[.string nm]) (by go_simp) (((HRB.out W)).mono ?_)⟩
                rintro e W' ⟨rfl, rfl⟩
                exact ⟨_, rfl, Below.refl _ _, fun u hu => by cases hu; rfl⟩
              | 8, _, rfl =>
                have e7 : v7 = _ := hphi ⟨7, .data⟩ (by simp) rfl v7 rfl _ rfl
                have e4 : v4 = _ := hphi ⟨4, .guard⟩ (by simp) rfl v4 rfl _ rfl
                subst e4 e7
                exact .inl ⟨rfl, gives_value (v := .bool true) (w' := W) (by go_simp) ⟨Below.refl _ _, fun u hu => by cases hu; rfl⟩⟩
              | 9, _, rfl =>
                have e4 : v4 = _ := hphi ⟨4, .data⟩ (by simp) rfl v4 rfl _ rfl
                have e8 : v8 = _ := hphi ⟨8, .data⟩ (by simp) rfl v8 rfl _ rfl
                subst e4 e8
                exact .inl ⟨rfl, gives_value (v := .bool true) (w' := W) (by go_simp) ⟨Below.refl _ _, fun u hu => by cases hu; rfl⟩⟩
              | 10, _, rfl =>
                have e0 : v0 = _ := hphi ⟨0, .data⟩ (by simp) rfl v0 rfl _ rfl
                have e9 : v9 = _ := hphi ⟨9, .data⟩ (by simp) rfl v9 rfl _ rfl
                subst e0 e9
                refine .inl ⟨rfl, gives_call (f := 198) (args := #[.agg #[.slice A1 n1 c1, .bool bad1], .bool true]) (by go_simp) ((tnext_any A1 n1 c1 B us1 bad1 true W (HR5.out.sl.below hR (by omega)) (by have := hR.size; omega) HR5.out.max HR5.out.le).mono ?_)⟩
                rintro e W' ⟨v, rfl, hv2, hb2⟩
                exact ⟨_, rfl, hb2, ⟨hv2, by have := hR.size; have := hb2.size; omega⟩⟩
              | i + 11, hi, _ => exact absurd hi (by omega)
            case tailA =>
              intro vs W hv hR hphi
              obtain ⟨v0, v1, v2, v3, v4, v5, v6, v7, v8, v9, v10, rfl⟩ := ls11 hv
              simp only [List.zip, List.zipWith, putAll, Act.put, List.setIfInBounds_toArray, List.set, List.drop]
              have e0 : v0 = _ := hphi 0 v0 rfl _ rfl
              have e1 : v1 = _ := hphi 1 v1 rfl _ rfl
              have e2 : v2 = _ := hphi 2 v2 rfl _ rfl
              have e3 : v3 = _ := hphi 3 v3 rfl _ rfl
              have e4 : v4 = _ := hphi 4 v4 rfl _ rfl
              have e5 : v5 = _ := hphi 5 v5 rfl _ rfl
              have e6 : v6 = _ := hphi 6 v6 rfl _ rfl
              have e7 : v7 = _ := hphi 7 v7 rfl _ rfl
              have e8 : v8 = _ := hphi 8 v8 rfl _ rfl
              have e9 : v9 = _ := hphi 9 v9 rfl _ rfl
              have e10 : (TkW B (nxR (us1, bad1) true)) v10 W := hphi 10 v10 rfl
              subst e0 e1 e2 e3 e4 e5 e6 e7 e8 e9
              clear hphi hv
              obtain ⟨⟨A2, n2, c2, rfl, hs2, hn2, hc2⟩, _⟩ := e10
              have HRW := Lib.hid (HR5.out.step hR hB)
              have HS2 := Lib.hid hs2
              clear hs2 hR p0 p1 k5 k1 f1
              have p0 := HRW.out.box.cell 0; have p1 := HRW.out.box.cell 1
              simp at p0 p1
              have f0 := HRW.out.box.free 0; have f1 := HRW.out.box.free 1
              have HX := Lib.hid (HRW.out.setT hB HS2.out hn2 hc2)
              have HTX : Hid (t2R ws = nxR (us1, bad1) true) := by rw [HT2.out]; rfl
              go_wp2_with fail
              go_meet
              rw [HTX.out]
              exact ⟨A2, n2, c2, HX.out⟩
      case rest =>
        clear hw5 HR4 HR5 p0 p1 k5 k1 f1 HNB HRB
        obtain ⟨A2, n2, c2, hr2⟩ := hcut.out
        have HR6 := Lib.hid hr2
        clear hr2 hcut
        obtain ⟨w6, hww⟩ : ∃ W, W = wc := ⟨_, rfl⟩
        subst hww
        obtain ⟨⟨us2, bad2⟩, ht2⟩ : ∃ t : Rt, t2R ws = t := ⟨_, rfl⟩
        have hsf2 : Hid (us2 <:+ ws) := by
          have h1 : (t2R ws).1 <:+ us1 := by rw [HT2.out]; exact nxR_suf (us1, bad1) _
          rw [ht2] at h1
          exact h1.trans hsf1.out
        rw [ht2] at HR6 HKE
        have HTQ := Lib.hid ht2
        clear ht2 HT2
        have z6 := HR6.out.size
        have hln2 : us2.length = n2 := HR6.out.sl.len wdC_len (by omega)
        have hn2 : n2 ≤ 1000000 := by have := hsf2.out.length_le; have := HLW.out; omega
        obtain ⟨bq, hbq⟩ : ∃ bq, isR (us2, bad2) depsW = bq := ⟨_, rfl⟩
        have HQ := Lib.hid hbq
        have HIQ := Lib.hid (tis_any A2 n2 c2 B us2 bad2 depsW w6 HR6.out.sl (by omega) HR6.out.max HR6.out.le)
        rw [hbq] at HIQ
        unfold depsW at HIQ
        clear hbq
        have p0 := HR6.out.box.cell 0; have p1 := HR6.out.box.cell 1
        simp at p0 p1
        go_upto_if 32 with (go_at_call 197; refine HIQ.out.mono ?_; rintro e w7 ⟨rfl, hb7⟩)
        have HR7 := Lib.hid (HR6.out.step hb7 hB)
        clear hb7 HIQ p0 p1
        go_cut [] from 33 to 39 (fun wx => Hid (∃ A n c dA dn dc, RSx B (depR (us2, bad2)).2 kd nm (depR (us2, bad2)).1 [] w wx A n c dA dn dc none 0 0))
        case first =>
          cases bq with
          | false =>
            have HD : Hid (depR (us2, bad2) = ([], (us2, bad2))) := if_neg (by rw [HQ.out]; simp)
            go_wp2_with fail
            go_meet
            rw [HD.out]
            exact ⟨A2, n2, c2, none, 0, 0, HR7.out⟩
          | true =>
            obtain ⟨hbd, hnx⟩ := isR_true HQ.out
            obtain rfl : bad2 = false := hbd
            have HD : Hid (depR (us2, false) = lsR frlB stD us2.tail) := if_pos HQ.out
            have HNX := Lib.hid hnx
            clear hnx
            have HNT := Lib.hid (tnext_any A2 n2 c2 B us2 false true w7 HR7.out.sl (by have := HR7.out.size; omega) HR7.out.max HR7.out.le)
            rw [HNX.out] at HNT
            have p0 := HR7.out.box.cell 0; have p1 := HR7.out.box.cell 1
            simp at p0 p1
            go_wp2_with fail
            refine HNT.out.mono ?_
            rintro e w8 ⟨v, rfl, ⟨X3, m3, y3, rfl, hs3, hm3, hy3⟩, hb8⟩
            have HR8 := Lib.hid (HR7.out.step hb8 hB)
            have hl3 := hs3.len wdC_len (by omega)
            simp only at hl3 hs3
            have hn3l : m3 ≤ 1000000 := by rw [← hl3, List.length_tail]; omega
            have HLS := Lib.hid (tlistD_any X3 m3 y3 B us2.tail w8 hs3 (by have := HR8.out.size; omega) hm3 hy3 (fun x hx => by have := HSZ.out x (hsf2.out.subset (List.mem_of_mem_tail hx)); unfold maxLen; omega) hn3l)
            clear hs3 hb8 HNT p0 p1 hl3
            go_wp2_with fail
            refine HLS.out.mono ?_
            rintro e w9 ⟨xA, xn, xc, v, rfl, hd9, hdl, hdm, ⟨A4, n4, c4, rfl, hs4, hn4, hc4⟩, hb9⟩
            have HR9 := Lib.hid (HR8.out.step hb9 hB)
            have HD9 : Hid (w9.ownsRow (w.heap.size + 4) 9 1 (.slice xA xn xc) xn (strs (lsR frlB stD us2.tail).1)) := own_more hd9 (by have := HR8.out.size; omega)
            have HS4 := Lib.hid hs4
            clear hs4 hd9 hb9 HLS
            have k2 := HR9.out.rule.cell 2; have g2 := HR9.out.rule.free 2
            simp at k2
            obtain ⟨w10, hw10⟩ : ∃ w10, w9.setCell ⟨w.heap.size + 3, 2, none⟩ (.slice xA xn xc) = w10 := ⟨_, rfl⟩
            have HR10 : Hid (RSx B (us2, false) kd nm (lsR frlB stD us2.tail).1 [] w w10 A2 n2 c2 xA xn xc none 0 0) := by rw [← hw10]; exact HR9.out.setR hB (HR9.out.rule.set4r.2.2.1 _) HD9.out HR9.out.v
            have HS5 : Hid (Sl w10 B 2 A4 n4 (flat wdC (lsR frlB stD us2.tail).2.1)) := by rw [← hw10]; exact HS4.out.setCell (by show B ≤ w.heap.size + 3; omega) _
            have HX := Lib.hid (HR10.out.setT hB HS5.out hn4 hc4)
            have p0 := HR10.out.box.cell 0; have p1 := HR10.out.box.cell 1
            simp at p0 p1
            have f0 := HR10.out.box.free 0; have f1 := HR10.out.box.free 1
            go_wp2_with fail
            go_meet
            rw [HD.out]
            exact ⟨A4, n4, c4, xA, xn, xc, HX.out⟩
        case rest =>
          clear HR6 HR7
          obtain ⟨⟨dl, us3, bad3⟩, hd3⟩ : ∃ r : List ByteArray × Rt, depR (us2, bad2) = r := ⟨_, rfl⟩
          have hsf3 : Hid (us3 <:+ ws) := by
            have h1 : (depR (us2, bad2)).2.1 <:+ us2 := depR_suf (us2, bad2)
            rw [hd3] at h1
            exact h1.trans hsf2.out
          rw [hd3] at hcut HKE
          have HDP := Lib.hid hd3
          clear hd3
          obtain ⟨A3, n3, c3, dA, dn, dc, hr3⟩ := hcut.out
          have HR8 := Lib.hid hr3
          clear hr3 hcut
          obtain ⟨w8, hww⟩ : ∃ W, W = wc := ⟨_, rfl⟩
          subst hww
          have z8 := HR8.out.size
          have hln3 : us3.length = n3 := HR8.out.sl.len wdC_len (by omega)
          have hn3 : n3 ≤ 1000000 := by have := hsf3.out.length_le; have := HLW.out; omega
          clear HQ
          obtain ⟨bq, hbq⟩ : ∃ bq, isR (us3, bad3) visibleW = bq := ⟨_, rfl⟩
          have HQ := Lib.hid hbq
          have HIQ := Lib.hid (tis_any A3 n3 c3 B us3 bad3 visibleW w8 HR8.out.sl (by omega) HR8.out.max HR8.out.le)
          rw [hbq] at HIQ
          unfold visibleW at HIQ
          clear hbq
          have p0 := HR8.out.box.cell 0; have p1 := HR8.out.box.cell 1
          simp at p0 p1
          go_upto_if 41 with (go_at_call 197; refine HIQ.out.mono ?_; rintro e w7 ⟨rfl, hb7⟩)
          have HR7 := Lib.hid (HR8.out.step hb7 hB)
          clear hb7 HIQ p0 p1
          go_cut [] from 42 to 48 (fun wx => Hid (∃ A n c vA vn vc, RSx B (visR (us3, bad3)).2 kd nm dl (visR (us3, bad3)).1 w wx A n c dA dn dc vA vn vc))
          case first =>
            cases bq with
            | false =>
              have HD : Hid (visR (us3, bad3) = ([], (us3, bad3))) := if_neg (by rw [HQ.out]; simp)
              go_wp2_with fail
              go_meet
              rw [HD.out]
              exact ⟨A3, n3, c3, none, 0, 0, HR7.out⟩
            | true =>
              obtain ⟨hbd, hnx⟩ := isR_true HQ.out
              obtain rfl : bad3 = false := hbd
              have HD : Hid (visR (us3, false) = lsR viewB stV us3.tail) := if_pos HQ.out
              have HNX := Lib.hid hnx
              clear hnx
              have HNT := Lib.hid (tnext_any A3 n3 c3 B us3 false true w7 HR7.out.sl (by have := HR7.out.size; omega) HR7.out.max HR7.out.le)
              rw [HNX.out] at HNT
              have p0 := HR7.out.box.cell 0; have p1 := HR7.out.box.cell 1
              simp at p0 p1
              go_wp2_with fail
              refine HNT.out.mono ?_
              rintro e w8 ⟨v, rfl, ⟨X3, m3, y3, rfl, hs3, hm3, hy3⟩, hb8⟩
              have HR8 := Lib.hid (HR7.out.step hb8 hB)
              have hl3 := hs3.len wdC_len (by omega)
              simp only at hl3 hs3
              have hn3l : m3 ≤ 1000000 := by rw [← hl3, List.length_tail]; omega
              have HLS := Lib.hid (tlistV_any X3 m3 y3 B us3.tail w8 hs3 (by have := HR8.out.size; omega) hm3 hy3 (fun x hx => by have := HSZ.out x (hsf3.out.subset (List.mem_of_mem_tail hx)); unfold maxLen; omega) hn3l)
              clear hs3 hb8 HNT p0 p1 hl3
              go_wp2_with fail
              refine HLS.out.mono ?_
              rintro e w9 ⟨xA, xn, xc, v, rfl, hd9, hdl, hdm, ⟨A4, n4, c4, rfl, hs4, hn4, hc4⟩, hb9⟩
              have HR9 := Lib.hid (HR8.out.step hb9 hB)
              have HD9 : Hid (w9.ownsRow (w.heap.size + 4) 9 1 (.slice xA xn xc) xn (strs (lsR viewB stV us3.tail).1)) := own_more hd9 (by have := HR8.out.size; omega)
              have HS4 := Lib.hid hs4
              clear hs4 hd9 hb9 HLS
              have k2 := HR9.out.rule.cell 3; have g2 := HR9.out.rule.free 3
              simp at k2
              obtain ⟨w10, hw10⟩ : ∃ w10, w9.setCell ⟨w.heap.size + 3, 3, none⟩ (.slice xA xn xc) = w10 := ⟨_, rfl⟩
              have HR10 : Hid (RSx B (us3, false) kd nm dl (lsR viewB stV us3.tail).1 w w10 A3 n3 c3 dA dn dc xA xn xc) := by rw [← hw10]; exact HR9.out.setR hB (HR9.out.rule.set4r.2.2.2 _) HR9.out.d HD9.out
              have HS5 : Hid (Sl w10 B 2 A4 n4 (flat wdC (lsR viewB stV us3.tail).2.1)) := by rw [← hw10]; exact HS4.out.setCell (by show B ≤ w.heap.size + 3; omega) _
              have HX := Lib.hid (HR10.out.setT hB HS5.out hn4 hc4)
              have p0 := HR10.out.box.cell 0; have p1 := HR10.out.box.cell 1
              simp at p0 p1
              have f0 := HR10.out.box.free 0; have f1 := HR10.out.box.free 1
              go_wp2_with fail
              go_meet
              rw [HD.out]
              exact ⟨A4, n4, c4, xA, xn, xc, HX.out⟩
          case rest =>
            clear HR8 HR7
            obtain ⟨⟨vl, us4, bad4⟩, hd4⟩ : ∃ r : List ByteArray × Rt, visR (us3, bad3) = r := ⟨_, rfl⟩
            rw [hd4] at hcut HKE
            have HVI := Lib.hid hd4
            clear hd4
            obtain ⟨A4, n4, c4, vA, vn, vc, hr4⟩ := hcut.out
            have HR9 := Lib.hid hr4
            clear hr4 hcut
            obtain ⟨w9, hww⟩ : ∃ W, W = wc := ⟨_, rfl⟩
            subst hww
            have z9 := HR9.out.size
            obtain ⟨bs, hbs⟩ : ∃ bs, isR (us4, bad4) semiW = bs := ⟨_, rfl⟩
            have HIS : Hid (∀ W, Below w9.heap.size w9 W → Calls Tryz.prog 197 #[.agg #[.slice A4 n4 c4, .bool bad4], .string semiW] W fun e w' => e = .returned (.bool bs) ∧ Below W.heap.size W w') := fun W hb => by
              have := tis_any A4 n4 c4 B us4 bad4 semiW W (HR9.out.sl.below hb (by omega)) (by have := hb.size; omega) HR9.out.max HR9.out.le
              rwa [hbs] at this
            have HRL : Hid ((rlR ws).2 = nxR (us4, bad4) bs) := by
              show _ = _
              unfold rlR
              rw [HTQ.out, HDP.out]
              show nxR (visR (us3, bad3)).2 (isR (visR (us3, bad3)).2 semiW) = _
              rw [HVI.out]
              show nxR (us4, bad4) (isR (us4, bad4) semiW) = _
              rw [hbs]
            have HKF : Hid ((rlR ws).1 = (kd, nm, dl, vl)) := by
              show _ = _
              have h := HKE.out
              rw [HT1.out, HNM.out] at h
              exact h
            unfold semiW at HIS
            clear hbs HKE HQ
            have p0 := HR9.out.box.cell 0; have p1 := HR9.out.box.cell 1
            have k0 := HR9.out.rule.cell 0; have k1 := HR9.out.rule.cell 1; have k2 := HR9.out.rule.cell 2; have k3 := HR9.out.rule.cell 3
            simp at p0 p1 k0 k1 k2 k3
            have hz1 : w.heap.size < w9.heap.size := by omega
            have hz3 : w.heap.size + 3 < w9.heap.size := by omega
            go_wp2_with fail
            have HSP : Hid (∀ x ∈ [(4, TkW B (nxR (us4, bad4) bs))], ∀ v W W', x.2 v W → Below W.heap.size W W' → x.2 v W') := fun x hx v W W' h hb => by
              rw [List.mem_singleton.1 hx] at h ⊢
              exact TkW.on h hb
            refine wp_region_stableGD 5 (49 :: 50 :: 51 :: 52 :: 53 :: []) (by kernel_rfl) (by kernel_rfl) (by kernel_rfl) (fun W => Below w9.heap.size w9 W) (fun W W' => Below W.heap.size W W')
              (gPhi [(4, TkW B (nxR (us4, bad4) bs))] ((.agg #[.int .i64 kd, .string nm, .slice dA dn dc, .slice vA vn vc]) :: (.agg #[.slice A4 n4 c4, .bool bad4]) :: (.agg #[.slice A4 n4 c4, .bool bad4]) :: (.bool bs) :: (undef) :: [])) (fun W W' h1 h2 => h1.trans (h2.mono h1.size)) (fun i v W W' h hb => gPhi_keep HSP.out i v W W' h hb) (Below.refl _ _).drew ?stepA ?tailA
            case stepA =>
              intro i o vs W hi ho hv hR hphi
              obtain ⟨v0, v1, v2, v3, v4, rfl⟩ := ls5 hv
              simp only [List.zip, List.zipWith, putAll, Act.put, List.setIfInBounds_toArray, List.set]
              have hWz := hR.size
              have t0 := (hR.cell (p := ⟨w.heap.size, 0, none⟩) (by show w.heap.size < _; omega)).trans p0
              have t1 := (hR.cell (p := ⟨w.heap.size, 1, none⟩) (by show w.heap.size < _; omega)).trans p1
              have m0 := (hR.cell (p := ⟨w.heap.size + 3, 0, none⟩) (by show w.heap.size + 3 < _; omega)).trans k0
              have m1 := (hR.cell (p := ⟨w.heap.size + 3, 1, none⟩) (by show w.heap.size + 3 < _; omega)).trans k1
              have m2 := (hR.cell (p := ⟨w.heap.size + 3, 2, none⟩) (by show w.heap.size + 3 < _; omega)).trans k2
              have m3 := (hR.cell (p := ⟨w.heap.size + 3, 3, none⟩) (by show w.heap.size + 3 < _; omega)).trans k3
              match i, hi, ho with
              | 0, _, rfl =>
                exact .inl ⟨rfl, gives_value (v := .agg #[.int .i64 kd, .string nm, .slice dA dn dc, .slice vA vn vc]) (w' := W) (by go_simp) ⟨Below.refl _ _, fun u hu => by cases hu; rfl⟩⟩
              | 1, _, rfl =>
                exact .inl ⟨rfl, gives_value (v := .agg #[.slice A4 n4 c4, .bool bad4]) (w' := W) (by go_simp) ⟨Below.refl _ _, fun u hu => by cases hu; rfl⟩⟩
              | 2, _, rfl =>
                exact .inl ⟨rfl, gives_value (v := .agg #[.slice A4 n4 c4, .bool bad4]) (w' := W) (by go_simp) ⟨Below.refl _ _, fun u hu => by cases hu; rfl⟩⟩
              | 3, _, rfl =>
                have e2 : v2 = _ := hphi ⟨2, .data⟩ (by simp) rfl v2 rfl _ rfl
                subst e2
                refine .inl ⟨rfl, gives_call (f := 197) (args := #[.agg #[.slice A4 n4 c4, .bool bad4], .string ⟨#[59]⟩]) (by go_simp) (((HIS.out W hR)).mono ?_)⟩
                rintro e W' ⟨rfl, hb2⟩
                exact ⟨_, rfl, hb2, fun u hu => by cases hu; rfl⟩
              | 4, _, rfl =>
                have e1 : v1 = _ := hphi ⟨1, .data⟩ (by simp) rfl v1 rfl _ rfl
                have e3 : v3 = _ := hphi ⟨3, .data⟩ (by simp) rfl v3 rfl _ rfl
                subst e1 e3
                refine .inl ⟨rfl, gives_call (f := 198) (args := #[.agg #[.slice A4 n4 c4, .bool bad4], .bool bs]) (by go_simp) ((tnext_any A4 n4 c4 B us4 bad4 bs W (HR9.out.sl.below hR (by omega)) (by have := hR.size; omega) HR9.out.max HR9.out.le).mono ?_)⟩
                rintro e W' ⟨v, rfl, hv2, hb2⟩
                exact ⟨_, rfl, hb2, ⟨hv2, by have := hR.size; have := hb2.size; omega⟩⟩
              | i + 5, hi, _ => exact absurd hi (by omega)
            case tailA =>
              intro vs W hv hR hphi
              obtain ⟨v0, v1, v2, v3, v4, rfl⟩ := ls5 hv
              simp only [List.zip, List.zipWith, putAll, Act.put, List.setIfInBounds_toArray, List.set, List.drop]
              have e0 : v0 = _ := hphi 0 v0 rfl _ rfl
              have e1 : v1 = _ := hphi 1 v1 rfl _ rfl
              have e2 : v2 = _ := hphi 2 v2 rfl _ rfl
              have e3 : v3 = _ := hphi 3 v3 rfl _ rfl
              have e4 : (TkW B (nxR (us4, bad4) bs)) v4 W := hphi 4 v4 rfl
              subst e0 e1 e2 e3
              clear hphi hv
              obtain ⟨⟨A5, n5, c5, rfl, hs5, hn5, hc5⟩, _⟩ := e4
              have HRW := Lib.hid (HR9.out.step hR hB)
              have HS5 := Lib.hid hs5
              clear hs5 hR p0 p1 k0 k1 k2 k3
              have q0 := HRW.out.r1.cell 0; have q1 := HRW.out.r1.cell 1; have q2 := HRW.out.r1.cell 2; have q3 := HRW.out.r1.cell 3
              have g0 := HRW.out.r1.free 0; have g1 := HRW.out.r1.free 1; have g2 := HRW.out.r1.free 2; have g3 := HRW.out.r1.free 3
              have x0 := HRW.out.r2.cell 0; have x1 := HRW.out.r2.cell 1
              have h0 := HRW.out.r2.free 0; have h1 := HRW.out.r2.free 1
              simp at q0 q1 q2 q3 x0 x1
              go_wp2_with fail
              refine bodyPost_ret (res_rule Tryz.results155 rfl rfl (((HRW.out.r1.all4 _ _ _ _).far (by show w.heap.size + 1 ≠ w.heap.size + 2; omega) _).far (by show w.heap.size + 1 ≠ w.heap.size + 2; omega) _) (((((HRW.out.r2.far (by show w.heap.size + 2 ≠ w.heap.size + 1; omega) _).far (by show w.heap.size + 2 ≠ w.heap.size + 1; omega) _).far (by show w.heap.size + 2 ≠ w.heap.size + 1; omega) _).far (by show w.heap.size + 2 ≠ w.heap.size + 1; omega) _).set2 _ _)) rfl ?_
              refine ⟨dA, dn, dc, vA, vn, vc, _, by rw [HKF.out], ?_, ?_, ?_, below_set2 (below_all4 HRW.out.below (by omega) _ _ _ _) (by omega) _ _⟩
              · rw [HKF.out]; exact ownsRow_setCell_below (ownsRow_setCell_below (ownsRow_setCell_below (ownsRow_setCell_below (ownsRow_setCell_below (ownsRow_setCell_below (HRW.out.d) (by show w.heap.size + 1 < w.heap.size + 4; omega) _) (by show w.heap.size + 1 < w.heap.size + 4; omega) _) (by show w.heap.size + 1 < w.heap.size + 4; omega) _) (by show w.heap.size + 1 < w.heap.size + 4; omega) _) (by show w.heap.size + 2 < w.heap.size + 4; omega) _) (by show w.heap.size + 2 < w.heap.size + 4; omega) _
              · rw [HKF.out]; exact ownsRow_setCell_below (ownsRow_setCell_below (ownsRow_setCell_below (ownsRow_setCell_below (ownsRow_setCell_below (ownsRow_setCell_below (HRW.out.v) (by show w.heap.size + 1 < w.heap.size + 4; omega) _) (by show w.heap.size + 1 < w.heap.size + 4; omega) _) (by show w.heap.size + 1 < w.heap.size + 4; omega) _) (by show w.heap.size + 1 < w.heap.size + 4; omega) _) (by show w.heap.size + 2 < w.heap.size + 4; omega) _) (by show w.heap.size + 2 < w.heap.size + 4; omega) _
              · rw [HRL.out]; exact ⟨A5, n5, c5, rfl, ((((((HS5.out).setCell (by show B ≤ w.heap.size + 1; omega) _).setCell (by show B ≤ w.heap.size + 1; omega) _).setCell (by show B ≤ w.heap.size + 1; omega) _).setCell (by show B ≤ w.heap.size + 1; omega) _).setCell (by show B ≤ w.heap.size + 2; omega) _).setCell (by show B ≤ w.heap.size + 2; omega) _, hn5, hc5⟩
end Go.Proofs.YtddlohbhchjjhaaGreatDoor

namespace Go.Proofs.YtddlohbhchjjhaaGreatDoor
open Go.RowKit Go.Shelf

def WrdEnd (s : ByteArray) (w : World) (e : Ending) (w' : World) : Prop :=
  ∃ A m c ws, e = .returned (.slice A m c) ∧ Sl w' w'.heap.size 2 A m (flat wdC ws) ∧ m ≤ c ∧ c ≤ maxLen ∧ WdF s 0 ws ∧ m ≤ s.size ∧ (∀ x ∈ ws, x.1.size ≤ s.size) ∧ Below w.heap.size w w'
theorem byt_eq {s : ByteArray} {a : Nat} (ha : a < s.size) {d : UInt8} (h : s[a] = d) : ((s[a].toNat : Int) == (d.toNat : Int)) = true := by rw [h]; simp
theorem byt_ne {s : ByteArray} {a : Nat} (ha : a < s.size) {d : UInt8} (h : s[a] ≠ d) : ((s[a].toNat : Int) == (d.toNat : Int)) = false := by
  rw [beq_eq_false_iff_ne]; intro e; apply h; apply UInt8.toNat_inj.1; omega
theorem byt_bne {s : ByteArray} {a : Nat} (ha : a < s.size) {d : UInt8} (h : s[a] ≠ d) : ((s[a].toNat : Int) != (d.toNat : Int)) = true := by
  rw [bne_iff_ne]; intro e; apply h; apply UInt8.toNat_inj.1; omega
theorem byt_beq {s : ByteArray} {a : Nat} (ha : a < s.size) {d : UInt8} (h : s[a] = d) : ((s[a].toNat : Int) != (d.toNat : Int)) = false := by rw [h]; simp
theorem run_end {s : ByteArray} {p : UInt8 → Prop} {a e : Nat} (h1 : a < e) (h2 : e ≤ s.size) (h3 : ∀ j c, a ≤ j → j < e → (bl s)[j]? = some c → p c) (h4 : ∀ (h : e < s.size), ¬ p s[e]) : Run s p a e :=
  ⟨h1, h2, h3, fun c hc => by
    have he : e < s.size := by have := (List.getElem?_eq_some_iff.1 hc).1; rwa [bl_len] at this
    have := get_data s e he
    rw [show (bl s)[e]? = s.data.toList[e]? from rfl, this] at hc
    cases hc; exact h4 he⟩
theorem run_step {s : ByteArray} {p : UInt8 → Prop} {a e : Nat} (h : ∀ j c, a ≤ j → j < e → (bl s)[j]? = some c → p c) (he : e < s.size) (hp : p s[e]) : ∀ j c, a ≤ j → j < e + 1 → (bl s)[j]? = some c → p c := fun j c h1 h2 hc => by
  by_cases e1 : j = e
  · subst e1
    have := get_data s j he
    rw [show (bl s)[j]? = s.data.toList[j]? from rfl, this] at hc
    cases hc; exact hp
  · exact h j c h1 (by omega) hc
set_option maxRecDepth 100000 in
set_option maxHeartbeats 8000000 in
theorem words38_any (s : ByteArray) (w : World) (hs : s.size ≤ 65536) : Calls Tryz.prog 154 #[.string s] w (WrdEnd s w) := by
  obtain ⟨i0, hi, hz0, hz1', hz2'⟩ := info_parts infoWd9
  have Hi := Lib.hid hi; have Hz0 := Lib.hid hz0; have Hz1 := Lib.hid hz1'; have Hz2 := Lib.hid hz2'
  clear hi hz0 hz1' hz2'
  obtain ⟨W0, hW0⟩ : ∃ W0, w.alloc (.cells #[] 185) = W0 := ⟨_, rfl⟩
  have HB0 : Hid (Below w.heap.size w W0) := by rw [← hW0]; exact (Below.refl _ w).alloc (Nat.le_refl _) _
  have zW0 : W0.heap.size = w.heap.size + 1 := by rw [← hW0]; simp
  have HA0 : Hid (Apd W0 (w.heap.size + 1) 185 2 (some ⟨w.heap.size, 0, none⟩) 0 0 (flat wdC [])) := .inr ⟨rfl, rfl, rfl⟩
  go_enter Tryz.func154, Tryz.ntmps154
  go_wp2_with fail
  clear hW0
  go_loopw [3, 4] (fun o i wr => ∃ (A3 : Option Addr) (m c3 a : Nat) (pre : List (ByteArray × Nat)), o = .slice A3 m c3 ∧ i = .int .i64 (a : Int) ∧ m ≤ c3 ∧ c3 ≤ maxLen ∧ a ≤ s.size ∧ m ≤ a ∧ Hid (Apd wr (w.heap.size + 1) 185 2 A3 m c3 (flat wdC pre)) ∧ Hid (WdP s a pre) ∧ Hid (Below w.heap.size w wr) ∧ w.heap.size + 1 ≤ wr.heap.size) (fun _ i _ => s.size - (intOf i).toNat)
  case atStart => exact ⟨_, 0, 0, 0, [], rfl, rfl, Nat.le_refl _, Nat.zero_le _, Nat.zero_le _, Nat.le_refl _, HA0.out, WdP.start s, HB0.out, by omega⟩
  case round =>
    obtain ⟨A3, m, c3, a, pre, rfl, rfl, hmc, hcm, ha, hma, hA, hP, hBel, hz⟩ := hrel
    by_cases hlt : a < s.size
    · have hlz : (a : Int) < (s.size : Int) := by omega
      have hg := Lib.hid (get_data s a hlt)
      by_cases h32 : s[a] = 32
      · have t1 := byt_eq hlt h32
        have HP2 := Lib.hid (hP.out.blank (c := s[a]) hg.out (.inl h32))
        clear h32
        simp only [show ((32 : UInt8).toNat : Int) = 32 from rfl] at t1
        go_wp2_with fail
        go_roundw
        case rel => exact ⟨A3, m, c3, a + 1, pre, rfl, by go_num, hmc, hcm, hlt, by omega, hA.out, HP2.out, hBel.out, hz⟩
        case measure => simp [intOf]; omega
      have t1 := byt_ne hlt h32
      simp only [show ((32 : UInt8).toNat : Int) = 32 from rfl] at t1
      by_cases h10 : s[a] = 10
      · have t2 := byt_eq hlt h10
        have HP2 := Lib.hid (hP.out.blank (c := s[a]) hg.out (.inr h10))
        clear h10 h32
        simp only [show ((10 : UInt8).toNat : Int) = 10 from rfl] at t2
        go_wp2_with fail
        go_roundw
        case rel => exact ⟨A3, m, c3, a + 1, pre, rfl, by go_num, hmc, hcm, hlt, by omega, hA.out, HP2.out, hBel.out, hz⟩
        case measure => simp [intOf]; omega
      have t2 := byt_ne hlt h10
      simp only [show ((10 : UInt8).toNat : Int) = 10 from rfl] at t2
      by_cases h35 : s[a] = 35
      · have t3 := byt_eq hlt h35
        simp only [show ((35 : UInt8).toNat : Int) = 35 from rfl] at t3
        have H35 : Hid ((bl s)[a]? = some 35) := by show s.data.toList[a]? = _; rw [hg.out, h35]
        have H1 : Hid (∀ j c, a ≤ j → j < a + 1 → (bl s)[j]? = some c → c ≠ 10) := run_step (p := fun c => c ≠ 10) (fun j c h1 h2 => absurd h2 (by omega)) hlt h10
        have hne : Hid (s[a] ≠ 10) := h10
        clear h35 h10 h32
        go_wp2_with fail
        obtain ⟨wo, hwo⟩ : ∃ wo, wo = wr := ⟨_, rfl⟩
        subst hwo
        go_loopw [4] (fun i wr => ∃ e : Nat, a ≤ e ∧ e ≤ s.size ∧ i = .int .i64 (e : Int) ∧ Hid (∀ j c, a ≤ j → j < e → (bl s)[j]? = some c → c ≠ 10) ∧ wr = wo) (fun i _ => s.size - (intOf i).toNat)
        case atStart => exact ⟨a, Nat.le_refl _, by omega, rfl, fun j c h1 h2 => absurd h2 (by omega), rfl⟩
        case round =>
          obtain ⟨e, hae, hes, rfl, hN, rfl⟩ := hrel
          by_cases hel : e < s.size
          · have hez : (e : Int) < (s.size : Int) := by omega
            by_cases he10 : s[e] = 10
            · have t4 := byt_beq hel he10
              simp only [show ((10 : UInt8).toNat : Int) = 10 from rfl] at t4
              have hae2 : a < e := by
                rcases Nat.eq_or_lt_of_le hae with h | h
                · subst h; exact absurd he10 hne.out
                · exact h
              have HP2 := Lib.hid (hP.out.note H35.out (run_end hae2 hes hN.out (fun h => by simp [he10])))
              clear he10
              go_wp2_with fail
              go_roundw
              case rel => exact ⟨A3, m, c3, e, pre, rfl, rfl, hmc, hcm, hes, by omega, hA.out, HP2.out, hBel.out, hz⟩
              case measure => simp [intOf]; omega
            · have t4 := byt_bne hel he10
              simp only [show ((10 : UInt8).toNat : Int) = 10 from rfl] at t4
              have HN := Lib.hid (run_step (p := fun c => c ≠ 10) hN.out hel he10)
              clear he10
              go_wp2_with fail
              go_roundw
              case rel => exact ⟨e + 1, by omega, hel, by go_num, HN.out, trivial⟩
              case measure => simp [intOf]; omega
          · have hez : ¬ (e : Int) < (s.size : Int) := by omega
            have HP2 := Lib.hid (hP.out.note H35.out (run_end (by omega) hes hN.out (fun h => absurd h hel)))
            go_wp2_with fail
            go_roundw
            case rel => exact ⟨A3, m, c3, e, pre, rfl, rfl, hmc, hcm, hes, by omega, hA.out, HP2.out, hBel.out, hz⟩
            case measure => simp [intOf]; omega
      · have t3 := byt_ne hlt h35
        simp only [show ((35 : UInt8).toNat : Int) = 35 from rfl] at t3
        have H0 : Hid (s[a] ≠ 32 ∧ s[a] ≠ 10 ∧ s[a] ≠ 35) := ⟨h32, h10, h35⟩
        clear h35 h10 h32
        go_wp2_with fail
        obtain ⟨wo, hwo⟩ : ∃ wo, wo = wr := ⟨_, rfl⟩
        subst hwo
        go_loopw [4] (fun i wr => ∃ e : Nat, a ≤ e ∧ e ≤ s.size ∧ i = .int .i64 (e : Int) ∧ Hid (∀ j c, a ≤ j → j < e → (bl s)[j]? = some c → c ≠ 32 ∧ c ≠ 10) ∧ wr = wo) (fun i _ => s.size - (intOf i).toNat)
        case atStart => exact ⟨a, Nat.le_refl _, by omega, rfl, fun j c h1 h2 => absurd h2 (by omega), rfl⟩
        case round =>
          obtain ⟨e, hae, hes, rfl, hN, rfl⟩ := hrel
          have hend : ∀ (h : ¬ (e < s.size) ∨ ∃ h : e < s.size, s[e] = 32 ∨ s[e] = 10), a < e ∧ Run s (fun c => c ≠ 32 ∧ c ≠ 10) a e := fun h => by
            have hae2 : a < e := by
              rcases Nat.eq_or_lt_of_le hae with h' | h'
              · subst h'
                rcases h with h | ⟨_, h⟩
                · exact absurd hlt h
                · rcases h with h | h
                  · exact absurd h H0.out.1
                  · exact absurd h H0.out.2.1
              · exact h'
            exact ⟨hae2, run_end hae2 hes hN.out fun he hp => by
              rcases h with h | ⟨_, h | h⟩
              · exact h he
              · exact hp.1 h
              · exact hp.2 h⟩
          have HEND := Lib.hid hend
          clear hend
          by_cases hel : e < s.size
          · have hez : (e : Int) < (s.size : Int) := by omega
            by_cases he32 : s[e] = 32
            · have t4 := byt_beq hel he32
              simp only [show ((32 : UInt8).toNat : Int) = 32 from rfl] at t4
              obtain ⟨hae2, hrun⟩ := HEND.out (.inr ⟨hel, .inl he32⟩)
              have HP2 := Lib.hid (hP.out.word (c := s[a]) hg.out H0.out.1 H0.out.2.1 H0.out.2.2 hrun)
              have ha1 : (a : Int) ≤ (e : Int) := by omega
              have ha2 : (e : Int) ≤ (s.size : Int) := by omega
              have ha3 : ¬ (a : Int) < 0 := by omega
              have ha4 : ¬ (e : Int) < 0 := by omega
              clear hrun he32
              go_wp2_with (at_builtin; refine halt_app (.tmp 58) (.tmp 65) 178 rfl ?_)
              refine unhalt ?_
              refine wpList_append_apd (base := w.heap.size + 1) (size := 2) _ rfl (.tmp 58) (.tmp 65) 178 rfl 185 i0 _ 24 Tryz.underlying178 Hi.out Hz0.out Hz1.out Hz2.out rfl (by decide) A3 m c3 (flat wdC pre) rfl ?own_1 (wr.heap.size + 1) _ 1 _ [.string (s.extract a e), .int .i64 (a : Int)] rfl ?nw_1 (by simp [Value.oneCell']) ?m1_1 ?m2_1 ?m3_1 ?_
              case own_1 => exact hA.out.below ((Below.refl _ wr).alloc (Nat.le_refl _) _)
              case nw_1 => exact ⟨rfl, fun _ => ⟨wr.heap.size, 0, rfl, Nat.lt_succ_self _, fun j u hu => by have := new_cell2 wr 185 (.string (s.extract a e)) (.int .i64 (a : Int)) j u hu; rwa [Addr.add_lit] at this⟩⟩
              case m1_1 => unfold maxLen; omega
              case m2_1 => omega
              case m3_1 => simp; omega
              intro A7 c7 w4 ho4 hb4 hn4 hm4 hok4
              have HA4 : Hid (Apd w4 (w.heap.size + 1) 185 2 A7 (m + 1) c7 (flat wdC (pre ++ [(s.extract a e, a)]))) := by show Apd _ _ _ _ _ _ _ _; rw [flat_append]; exact ho4
              have HB4 : Hid (Below w.heap.size w w4) := (hBel.out.alloc hBel.out.size _).trans (hb4.mono (by omega))
              have hz4 := hb4.size
              rw [World.size_alloc] at hz4
              clear ho4 hb4 hok4
              go_wp2_with fail
              go_roundw
              case rel => exact ⟨A7, m + 1, c7, e, pre ++ [(s.extract a e, a)], rfl, rfl, hn4, hm4, hes, by omega, HA4.out, HP2.out, HB4.out, by omega⟩
              case measure => simp [intOf]; omega
            · have t4 := byt_bne hel he32
              simp only [show ((32 : UInt8).toNat : Int) = 32 from rfl] at t4
              by_cases he10 : s[e] = 10
              · have t5 := byt_beq hel he10
                simp only [show ((10 : UInt8).toNat : Int) = 10 from rfl] at t5
                obtain ⟨hae2, hrun⟩ := HEND.out (.inr ⟨hel, .inr he10⟩)
                have HP2 := Lib.hid (hP.out.word (c := s[a]) hg.out H0.out.1 H0.out.2.1 H0.out.2.2 hrun)
                have ha1 : (a : Int) ≤ (e : Int) := by omega
                have ha2 : (e : Int) ≤ (s.size : Int) := by omega
                have ha3 : ¬ (a : Int) < 0 := by omega
                have ha4 : ¬ (e : Int) < 0 := by omega
                clear hrun he10 he32
                go_wp2_with (at_builtin; refine halt_app (.tmp 58) (.tmp 65) 178 rfl ?_)
                refine unhalt ?_
                refine wpList_append_apd (base := w.heap.size + 1) (size := 2) _ rfl (.tmp 58) (.tmp 65) 178 rfl 185 i0 _ 24 Tryz.underlying178 Hi.out Hz0.out Hz1.out Hz2.out rfl (by decide) A3 m c3 (flat wdC pre) rfl ?own_2 (wr.heap.size + 1) _ 1 _ [.string (s.extract a e), .int .i64 (a : Int)] rfl ?nw_2 (by simp [Value.oneCell']) ?m1_2 ?m2_2 ?m3_2 ?_
                case own_2 => exact hA.out.below ((Below.refl _ wr).alloc (Nat.le_refl _) _)
                case nw_2 => exact ⟨rfl, fun _ => ⟨wr.heap.size, 0, rfl, Nat.lt_succ_self _, fun j u hu => by have := new_cell2 wr 185 (.string (s.extract a e)) (.int .i64 (a : Int)) j u hu; rwa [Addr.add_lit] at this⟩⟩
                case m1_2 => unfold maxLen; omega
                case m2_2 => omega
                case m3_2 => simp; omega
                intro A7 c7 w4 ho4 hb4 hn4 hm4 hok4
                have HA4 : Hid (Apd w4 (w.heap.size + 1) 185 2 A7 (m + 1) c7 (flat wdC (pre ++ [(s.extract a e, a)]))) := by show Apd _ _ _ _ _ _ _ _; rw [flat_append]; exact ho4
                have HB4 : Hid (Below w.heap.size w w4) := (hBel.out.alloc hBel.out.size _).trans (hb4.mono (by omega))
                have hz4 := hb4.size
                rw [World.size_alloc] at hz4
                clear ho4 hb4 hok4
                go_wp2_with fail
                go_roundw
                case rel => exact ⟨A7, m + 1, c7, e, pre ++ [(s.extract a e, a)], rfl, rfl, hn4, hm4, hes, by omega, HA4.out, HP2.out, HB4.out, by omega⟩
                case measure => simp [intOf]; omega
              · have t5 := byt_bne hel he10
                simp only [show ((10 : UInt8).toNat : Int) = 10 from rfl] at t5
                have HN := Lib.hid (run_step (p := fun c => c ≠ 32 ∧ c ≠ 10) hN.out hel ⟨he32, he10⟩)
                clear he10 he32
                go_wp2_with fail
                go_roundw
                case rel => exact ⟨e + 1, by omega, hel, by go_num, HN.out, trivial⟩
                case measure => simp [intOf]; omega
          · have hez : ¬ (e : Int) < (s.size : Int) := by omega
            obtain ⟨hae2, hrun⟩ := HEND.out (.inl hel)
            have HP2 := Lib.hid (hP.out.word (c := s[a]) hg.out H0.out.1 H0.out.2.1 H0.out.2.2 hrun)
            have ha1 : (a : Int) ≤ (e : Int) := by omega
            have ha2 : (e : Int) ≤ (s.size : Int) := by omega
            have ha3 : ¬ (a : Int) < 0 := by omega
            have ha4 : ¬ (e : Int) < 0 := by omega
            clear hrun
            go_wp2_with (at_builtin; refine halt_app (.tmp 58) (.tmp 65) 178 rfl ?_)
            refine unhalt ?_
            refine wpList_append_apd (base := w.heap.size + 1) (size := 2) _ rfl (.tmp 58) (.tmp 65) 178 rfl 185 i0 _ 24 Tryz.underlying178 Hi.out Hz0.out Hz1.out Hz2.out rfl (by decide) A3 m c3 (flat wdC pre) rfl ?own_3 (wr.heap.size + 1) _ 1 _ [.string (s.extract a e), .int .i64 (a : Int)] rfl ?nw_3 (by simp [Value.oneCell']) ?m1_3 ?m2_3 ?m3_3 ?_
            case own_3 => exact hA.out.below ((Below.refl _ wr).alloc (Nat.le_refl _) _)
            case nw_3 => exact ⟨rfl, fun _ => ⟨wr.heap.size, 0, rfl, Nat.lt_succ_self _, fun j u hu => by have := new_cell2 wr 185 (.string (s.extract a e)) (.int .i64 (a : Int)) j u hu; rwa [Addr.add_lit] at this⟩⟩
            case m1_3 => unfold maxLen; omega
            case m2_3 => omega
            case m3_3 => simp; omega
            intro A7 c7 w4 ho4 hb4 hn4 hm4 hok4
            have HA4 : Hid (Apd w4 (w.heap.size + 1) 185 2 A7 (m + 1) c7 (flat wdC (pre ++ [(s.extract a e, a)]))) := by show Apd _ _ _ _ _ _ _ _; rw [flat_append]; exact ho4
            have HB4 : Hid (Below w.heap.size w w4) := (hBel.out.alloc hBel.out.size _).trans (hb4.mono (by omega))
            have hz4 := hb4.size
            rw [World.size_alloc] at hz4
            clear ho4 hb4 hok4
            go_wp2_with fail
            go_roundw
            case rel => exact ⟨A7, m + 1, c7, e, pre ++ [(s.extract a e, a)], rfl, rfl, hn4, hm4, hes, by omega, HA4.out, HP2.out, HB4.out, by omega⟩
            case measure => simp [intOf]; omega
    · have hlz : ¬ (a : Int) < (s.size : Int) := by omega
      have HF := Lib.hid (hP.out.end_ (by omega))
      have HSZ : Hid (∀ x ∈ pre, x.1.size ≤ s.size) := fun x hx => (hP.out.sz x hx).1
      go_wp2_with fail
      go_ret
      exact ⟨A3, m, c3, pre, rfl, hA.out.sl, hmc, hcm, HF.out, by omega, HSZ.out, hBel.out⟩
end Go.Proofs.YtddlohbhchjjhaaGreatDoor

namespace Go.Proofs.YtddlohbhchjjhaaGreatDoor
open Go.RowKit Go.Shelf

set_option maxRecDepth 100000 in
set_option maxHeartbeats 2000000 in
theorem relemD_any (A : Option Addr) (n c B : Nat) (l : List ByteArray) (w : World) (h : Sl w B 1 A n (strs l)) (hB : B ≤ w.heap.size) (hn : n ≤ c) (hc : c ≤ maxLen) (hls : ∀ x ∈ l, x.size ≤ maxLen) :
    Calls Tryz.prog 212 #[.slice A n c, .bool false] w fun e w' => e = .returned (.int .i64 (elE frlB [] l)) ∧ Below w.heap.size w w' := by
  have hnm : n ≤ 9223372036854775807 := by unfold maxLen at hc; omega
  have H := Lib.hid h; have HLS := Lib.hid hls
  have HLL : Hid (l.length = n) := by have := h.1; rw [strs_len] at this; show _ = _; omega
  clear h hls
  go_enter Tryz.func212, Tryz.ntmps212
  go_wp2
  go_loopw [5] (fun i wr => ∃ k : Nat, k ≤ n ∧ i = .int .i64 k ∧ Hid (elE frlB [] l = elE frlB (l.take k) (l.drop k)) ∧ Hid (Below w.heap.size w wr)) (fun i _ => n - (intOf i).toNat)
  case atStart => exact ⟨0, Nat.zero_le _, rfl, rfl, Below.refl _ _⟩
  case round =>
    obtain ⟨k, hk, rfl, hE, hBel⟩ := hrel
    by_cases hlt : k < n
    · obtain ⟨b, off, x, rfl, hb, hx, y0⟩ := (H.out.below hBel.out hB).str_at hlt
      have hxs := HLS.out x (List.mem_of_getElem? hx)
      have HT := Lib.hid (elE_take (ok := frlB) hx)
      have hlz : (k : Int) < (n : Int) := by omega
      clear hx
      cases hv : frlB x with
      | false =>
        have hF : Hid (elE frlB [] l = 6) := by show _ = _; rw [hE.out, HT.out, hv]; rfl
        have HV := Lib.hid hv
        clear hv
        go_wp2_with (go_at_call 229; refine (rfree_any _ _ hxs).mono ?_; rintro e w1 ⟨rfl, rfl⟩; rw [HV.out])
        go_ret
        exact ⟨ret_int hF.out.symm, hBel.out⟩
      | true =>
        have HV := Lib.hid hv
        have HT2 : Hid (elE frlB (l.take k) (l.drop k) = if memB (l.take k) x then 7 else elE frlB (l.take (k + 1)) (l.drop (k + 1))) := by show _ = _; rw [HT.out, hv]; rfl
        clear hv HT
        have hsl : ∀ w' : World, (Instr.sliceAt 33 (.slice (some ⟨b, off, none⟩) n c) none (some (.int .i64 k)) none).run Tryz.prog w' = .ok (.slice (some ⟨b, off, none⟩) k c) w' := fun w' => by
          obtain ⟨i0, hi0, _⟩ := info_parts infoStr3
          exact run_slice_to 33 i0 Tryz.underlying33 hi0 _ n c k (by omega) w'
        have HSL : Hid (∀ q : Nat, Calls Tryz.prog 73 #[.slice (some ⟨b, off, none⟩) k c, .string x] (wr.drewN q) fun e w' => e = .returned (.bool (memB (l.take k) x)) ∧ w' = wr.drewN q) :=
          fun q => (rhas_any (some ⟨b, off, none⟩) k n c B l x (wr.drewN q) ((H.out.below hBel.out hB).drewN q) hk hnm).mono (fun e w' h => ⟨h.1, h.2.symm⟩)
        cases hm : memB (l.take k) x with
        | true =>
          have hF : Hid (elE frlB [] l = 7) := by show _ = _; rw [hE.out, HT2.out, hm]; rfl
          rw [hm] at HSL
          clear hm
          go_wp2_with (go_at_call 229; refine (rfree_any _ _ hxs).mono ?_; rintro e w1 ⟨rfl, rfl⟩; rw [HV.out])
          go_quiet (first | (go_at_call 73; exact Calls.quiet_of_same (HSL.out _)))
          go_wp2
          go_ret
          exact ⟨ret_int hF.out.symm, below_drewN hBel.out _⟩
        | false =>
          have hF : Hid (elE frlB [] l = elE frlB (l.take (k + 1)) (l.drop (k + 1))) := by show _ = _; rw [hE.out, HT2.out, hm]; rfl
          rw [hm] at HSL
          clear hm
          go_wp2_with (go_at_call 229; refine (rfree_any _ _ hxs).mono ?_; rintro e w1 ⟨rfl, rfl⟩; rw [HV.out])
          go_quiet (first | (go_at_call 73; exact Calls.quiet_of_same (HSL.out _)))
          go_wp2
          go_roundw
          case rel => exact ⟨k + 1, hlt, by go_num, hF.out, below_drewN hBel.out _⟩
          case measure => simp [intOf]; omega
    · have hlz : ¬ (k : Int) < (n : Int) := by omega
      have hF : Hid (elE frlB [] l = 0) := by
        show _ = _
        rw [hE.out, List.drop_of_length_le (by rw [HLL.out]; omega)]; rfl
      go_wp2
      go_ret
      exact ⟨ret_int hF.out.symm, hBel.out⟩
set_option maxRecDepth 100000 in
set_option maxHeartbeats 4000000 in
theorem rrule_g (B : Nat) (r : Tg) (w : World) (h : TgOk w B r) (hB : B ≤ w.heap.size) (hls : r.lab.size ≤ 1000000) :
    Calls Tryz.prog 159 #[rlV r] w fun e w' => e = .returned (.int .i64 (ruleE r)) ∧ Below w.heap.size w w' := by
  have HD : Hid (r.deps.length = r.dn) := h.dlen
  have HV : Hid (r.vis.length = r.vn) := h.vlen
  obtain ⟨lab, kind, dA, dn, dc, deps, vA, vn, vc, vis⟩ := r
  have HO := Lib.hid h
  have hdc := h.dmax; have hvc := h.vmax
  have hdn := h.dle; have hvn := h.vle
  simp only [rlV]
  simp only at HD HV hdc hvc hdn hvn hls
  have hdm : dn ≤ 9223372036854775807 := by unfold maxLen at hdc; omega
  have hvm : vn ≤ 9223372036854775807 := by unfold maxLen at hvc; omega
  clear h
  obtain ⟨W0, hW0⟩ : ∃ W0, w.alloc (.cells #[.int .i64 kind, .string lab, .slice dA dn dc, .slice vA vn vc] 60) = W0 := ⟨_, rfl⟩
  have HB0 : Hid (Below w.heap.size w W0) := by rw [← hW0]; exact (Below.refl _ w).alloc (Nat.le_refl _) _
  have HK0 : Hid (Bk W0 w.heap.size 60 #[.int .i64 kind, .string lab, .slice dA dn dc, .slice vA vn vc]) := by rw [← hW0]; exact Bk.new w _ _
  have zW0 : W0.heap.size = w.heap.size + 1 := by rw [← hW0]; simp
  have u0 := HK0.out.cell 0; have u1 := HK0.out.cell 1; have u2 := HK0.out.cell 2; have u3 := HK0.out.cell 3
  simp at u0 u1 u2 u3
  go_enter Tryz.func159, Tryz.ntmps159
  by_cases hk : kind ≠ 1 ∧ kind ≠ 2
  · have hF : Hid (ruleE ⟨lab, kind, dA, dn, dc, deps, vA, vn, vc, vis⟩ = 9) := by show _ = _; unfold ruleE; rw [if_pos hk]
    have k1 : (kind != 1) = true := by simpa using hk.1
    have k2 : (kind != 2) = true := by simpa using hk.2
    clear hk
    go_wp2_with fail
    go_ret
    exact ⟨ret_int hF.out.symm, HB0.out⟩
  · obtain ⟨nb, hnb⟩ : ∃ nb, namT lab = nb := ⟨_, rfl⟩
    obtain ⟨rb, hrb⟩ : ∃ rb, resB lab = rb := ⟨_, rfl⟩
    have HF0 : Hid (ruleE ⟨lab, kind, dA, dn, dc, deps, vA, vn, vc, vis⟩ = if (nb && !rb) = false then 6 else if 20 < deps.length ∨ 20 < vis.length then 4 else if elE frlB [] deps ≠ 0 then elE frlB [] deps else elE viewB [] vis) := by
      show _ = _
      unfold ruleE; rw [if_neg hk]; simp only; rw [show freB lab = (nb && !rb) by unfold freB; rw [hnb, hrb]]
    have HNM : Hid (∀ W, Calls Tryz.prog 156 #[.string lab] W fun e w' => e = .returned (.bool nb) ∧ W = w') := fun W => by rw [← hnb]; exact name38_any lab W hls
    have HRS : Hid (∀ W, Calls Tryz.prog 200 #[.string lab] W fun e w' => e = .returned (.bool rb) ∧ W = w') := fun W => by rw [← hrb]; exact rreserved_any lab W
    have hkk : ((kind != 1) = false ∧ True) ∨ ((kind != 1) = true ∧ (kind != 2) = false) := by
      by_cases e : kind = 1
      · left; simp [e]
      · right; refine ⟨by simpa using e, ?_⟩
        have : kind = 2 := Classical.byContradiction fun e2 => hk ⟨e, e2⟩
        simp [this]
    clear hk hnb hrb
    generalize ruleE ⟨lab, kind, dA, dn, dc, deps, vA, vn, vc, vis⟩ = rv at HF0 ⊢
    rcases hkk with ⟨k1, k2⟩ | ⟨k1, k2⟩
    all_goals
      cases nb with
      | false =>
        have hF : Hid (rv = 6) := HF0.out
        go_wp2_with fail
        refine (HNM.out _).mono ?_
        rintro e w1 ⟨rfl, rfl⟩
        go_wp2_with fail
        go_ret
        exact ⟨ret_int hF.out.symm, HB0.out⟩
      | true =>
        go_wp2_with fail
        refine (HNM.out _).mono ?_
        rintro e w1 ⟨rfl, rfl⟩
        go_wp2_with fail
        refine (HRS.out _).mono ?_
        rintro e w1 ⟨rfl, rfl⟩
        cases rb with
        | true =>
          have hF : Hid (rv = 6) := HF0.out
          go_wp2_with fail
          go_ret
          exact ⟨ret_int hF.out.symm, HB0.out⟩
        | false =>
          have HF1 : Hid (rv = if 20 < deps.length ∨ 20 < vis.length then 4 else if elE frlB [] deps ≠ 0 then elE frlB [] deps else elE viewB [] vis) := HF0.out
          by_cases hd : (20 : Int) < (dn : Int)
          · have hF : Hid (rv = 4) := by show _ = _; rw [HF1.out, if_pos (.inl (by rw [HD.out]; omega))]
            go_wp2_with fail
            go_ret
            exact ⟨ret_int hF.out.symm, HB0.out⟩
          by_cases hv : (20 : Int) < (vn : Int)
          · have hF : Hid (rv = 4) := by show _ = _; rw [HF1.out, if_pos (.inr (by rw [HV.out]; omega))]
            go_wp2_with fail
            go_ret
            exact ⟨ret_int hF.out.symm, HB0.out⟩
          have HF2 : Hid (rv = if elE frlB [] deps ≠ 0 then elE frlB [] deps else elE viewB [] vis) := by
            show _ = _
            rw [HF1.out, if_neg (by rw [HD.out, HV.out]; omega)]
          have HED := Lib.hid (relemD_any dA dn dc B deps W0 (HO.out.d.below HB0.out hB) (by omega) hdn hdc (fun x hx => HO.out.ds x hx))
          generalize elE frlB [] deps = ed at HED HF2
          clear HF0 HF1
          go_wp2_with fail
          refine HED.out.mono ?_
          rintro e w2 ⟨rfl, hb2⟩
          have HB2 : Hid (Below w.heap.size w w2) := HB0.out.trans (hb2.mono (by omega))
          have HK2 := Lib.hid (HK0.out.below hb2 (by omega))
          clear hb2 HED u0 u1 u2 u3
          by_cases hed : ed = 0
          · have e1 : (ed == 0) = true := by simpa using hed
            have HEV := Lib.hid (relem_any vA vn vc B vis w2 (HO.out.v.below HB2.out hB) (Nat.le_trans hB HB2.out.size) hvn hvc (fun x hx => HO.out.vs x hx))
            have hF : Hid (rv = elE viewB [] vis) := by show _ = _; rw [HF2.out, if_neg (by simpa using hed)]
            generalize elE viewB [] vis = ev at HEV hF
            have u3 := HK2.out.cell 3
            simp at u3
            clear hed
            go_wp2_with fail
            refine HEV.out.mono ?_
            rintro e w3 ⟨rfl, hb3⟩
            have HB3 : Hid (Below w.heap.size w w3) := HB2.out.trans (hb3.mono HB2.out.size)
            clear hb3 HEV
            go_wp2_with fail
            go_ret
            exact ⟨ret_int hF.out.symm, HB3.out⟩
          · have e1 : (ed == 0) = false := by simpa using hed
            have hF : Hid (rv = ed) := by show _ = _; rw [HF2.out, if_pos hed]
            clear hed
            go_wp2_with fail
            go_ret
            exact ⟨ret_int hF.out.symm, HB2.out⟩
def RcI (l : List Tg) (k : Nat) (r : Tg) (j : Nat) (ev : Int) : Prop :=
  (ruleE r ≠ 0 ∧ ev = ruleE r) ∨ (ruleE r = 0 ∧ ev = 0 ∧ ∀ q ∈ l.take j, q.lab ≠ r.lab) ∨ (ruleE r = 0 ∧ ev = 7 ∧ memB ((l.take k).map Tg.lab) r.lab = true)
theorem RcI.fin {l : List Tg} {k j : Nat} {r : Tg} {ev : Int} (h : RcI l k r j ev) (hj : k ≤ j ∨ ev ≠ 0) (hr : l[k]? = some r) : chkE ((l.take k).map Tg.lab) (l.drop k) = if ev ≠ 0 then ev else chkE ((l.take (k + 1)).map Tg.lab) (l.drop (k + 1)) := by
  rw [chkE_take hr]
  rcases h with ⟨h1, h2⟩ | ⟨h1, h2, h3⟩ | ⟨h1, h2, h3⟩
  · rw [if_pos h1, h2, if_pos h1]
  · have hm : memB ((l.take k).map Tg.lab) r.lab = false := by
      rw [Bool.eq_false_iff]; intro hh
      obtain ⟨q, hq, e⟩ := List.mem_map.1 ((memB_iff _ _).1 hh)
      rcases hj with hj | hj
      · exact h3 q (List.take_subset_take_left l hj hq) e
      · exact absurd h2 hj
    rw [if_neg (by simpa using h1), hm, h2]; simp
  · rw [if_neg (by simpa using h1), h3, h2]; simp
set_option maxRecDepth 100000 in
set_option maxHeartbeats 4000000 in
theorem rcheck_g (A : Option Addr) (n c B : Nat) (l : List Tg) (w : World) (h0 : Sl w B 4 A n (flat rlC l)) (hok : ∀ r ∈ l, TgOk w B r) (hB : B ≤ w.heap.size) (hn : n ≤ 1000000) (hls : ∀ r ∈ l, r.lab.size ≤ 1000000) :
    Calls Tryz.prog 110 #[.slice A n c] w fun e w' => e = .returned (.int .i64 (checkE l)) ∧ Below w.heap.size w w' := by
  have HL := Lib.hid (h0.len rlC_len (by omega))
  have H0 := Lib.hid h0; have HOK := Lib.hid hok; have HLS := Lib.hid hls
  clear h0 hok hls
  go_enter Tryz.func110, Tryz.ntmps110
  by_cases hbig : (100 : Int) < (n : Int)
  · have hF : Hid (checkE l = 4) := if_pos (by rw [HL.out]; omega)
    go_wp2_with fail
    go_ret
    exact ⟨ret_int hF.out.symm, Below.refl _ _⟩
  have HF0 : Hid (checkE l = chkE [] l) := if_neg (by rw [HL.out]; omega)
  go_wp2_with fail
  go_loopw [3] (fun i wr => ∃ k : Nat, k ≤ n ∧ i = .int .i64 k ∧ Hid (checkE l = chkE ((l.take k).map Tg.lab) (l.drop k)) ∧ Hid (Below w.heap.size w wr)) (fun i _ => n - (intOf i).toNat)
  case atStart => exact ⟨0, Nat.zero_le _, rfl, HF0.out, Below.refl _ _⟩
  case round =>
    obtain ⟨k, hk, rfl, hE, hBel⟩ := hrel
    by_cases hlt : k < n
    · obtain ⟨b, off, r, rfl, hb, hr, y0, y1, y2, y3⟩ := (H0.out.below hBel.out hB).rl hlt
      have hlz : (k : Int) < (n : Int) := by omega
      have HR := Lib.hid hr
      have HRG := Lib.hid (rrule_g B r wr ((HOK.out r (List.mem_of_getElem? hr)).below hBel.out hB) (Nat.le_trans hB hBel.out.size) (HLS.out r (List.mem_of_getElem? hr)))
      have HI0 : Hid (∃ ev, ruleE r = ev ∧ RcI l k r 0 ev) := by
        refine ⟨_, rfl, ?_⟩
        by_cases e : ruleE r = 0
        · exact .inr (.inl ⟨e, e, fun q hq => by simp at hq⟩)
        · exact .inl ⟨e, rfl⟩
      obtain ⟨ev0, hev, hI0⟩ := HI0.out
      rw [hev] at HRG
      have HI1 := Lib.hid hI0
      unfold rlV at HRG
      clear hr hev hI0 HI0
      go_wp2_with fail
      refine HRG.out.mono ?_
      rintro e w2 ⟨rfl, hb2⟩
      have HB2 : Hid (Below w.heap.size w w2) := hBel.out.trans (hb2.mono hBel.out.size)
      clear hb2 HRG y0 y1 y2 y3
      go_wp2_with fail
      obtain ⟨wo, hwo⟩ : ∃ wo, wo = wr := ⟨_, rfl⟩
      subst hwo
      go_loopw [4, 5] (fun v i wr => ∃ (ev : Int) (j : Nat), v = .int .i64 ev ∧ j ≤ k ∧ i = .int .i64 j ∧ Hid (RcI l k r j ev) ∧ Hid (Below w.heap.size w wr)) (fun _ i _ => n - (intOf i).toNat)
      case atStart => exact ⟨ev0, 0, rfl, Nat.zero_le _, rfl, HI1.out, HB2.out⟩
      case round =>
        obtain ⟨ev, j, rfl, hj, rfl, hI, hBr⟩ := hrel
        by_cases hgo : j < k ∧ ev = 0
        · obtain ⟨hjk, rfl⟩ := hgo
          have hjz : (j : Int) < (k : Int) := by omega
          have hjn : (j : Int) < (n : Int) := by omega
          obtain ⟨b', off', q, he, hb', hq, z0, z1, z2, z3⟩ := (H0.out.below hBr.out hB).rl (show j < n by omega)
          cases he
          obtain ⟨b', off', r', he, hb'', hr', y0, y1, y2, y3⟩ := (H0.out.below hBr.out hB).rl hlt
          cases he
          obtain rfl : r' = r := by rw [HR.out] at hr'; exact (Option.some.inj hr').symm
          have HQ := Lib.hid hq
          have hse := str_dec q.lab r'.lab
          clear hq hr' z0 z2 z3 y0 y2 y3
          by_cases e : q.lab = r'.lab
          · have HI2 : Hid (RcI l k r' (j + 1) 7) := by
              rcases hI.out with ⟨h1, h2⟩ | ⟨h1, _, _⟩ | ⟨_, h, _⟩
              · exact absurd h2.symm h1
              · refine .inr (.inr ⟨h1, rfl, (memB_iff _ _).2 (List.mem_map.2 ⟨q, ?_, e⟩)⟩)
                exact List.mem_take_iff_getElem.2 ⟨j, by have := (List.getElem?_eq_some_iff.1 HQ.out).1; omega, (List.getElem?_eq_some_iff.1 HQ.out).2⟩
              · cases h
            rw [decide_eq_true e] at hse
            clear e
            go_wp2_with fail
            go_quiet (fail)
            go_wp2_with fail
            go_roundw
            case rel => exact ⟨7, j + 1, rfl, hjk, by go_num, HI2.out, below_drewN hBr.out _⟩
            case measure => simp [intOf]; omega
          · have HI2 : Hid (RcI l k r' (j + 1) 0) := by
              rcases hI.out with ⟨h1, h2⟩ | ⟨h1, _, h3⟩ | ⟨_, h, _⟩
              · exact absurd h2.symm h1
              · refine .inr (.inl ⟨h1, rfl, fun y hy => ?_⟩)
                rw [take_snoc HQ.out] at hy
                rcases List.mem_append.1 hy with hy | hy
                · exact h3 y hy
                · rw [List.mem_singleton.1 hy]; exact e
              · cases h
            rw [decide_eq_false e] at hse
            clear e
            go_wp2_with fail
            go_quiet (fail)
            go_wp2_with fail
            go_roundw
            case rel => exact ⟨0, j + 1, rfl, hjk, by go_num, HI2.out, below_drewN hBr.out _⟩
            case measure => simp [intOf]; omega
        · have HFI := Lib.hid (hI.out.fin (by by_cases h : j < k; exact .inr fun e => hgo ⟨h, e⟩; exact .inl (by omega)) HR.out)
          by_cases hev : ev = 0
          · subst hev
            have hjz : ¬ (j : Int) < (k : Int) := by
              intro h; exact hgo ⟨by omega, rfl⟩
            have HE2 : Hid (checkE l = chkE ((l.take (k + 1)).map Tg.lab) (l.drop (k + 1))) := by show _ = _; rw [hE.out, HFI.out]; simp
            clear hgo
            go_wp2_with fail
            go_roundw
            case rel => exact ⟨k + 1, hlt, by go_num, HE2.out, hBr.out⟩
            case measure => simp [intOf]; omega
          · have e1 : (ev == 0) = false := by simpa using hev
            have e2 : (ev != 0) = true := by simpa using hev
            have hF : Hid (checkE l = ev) := by show _ = _; rw [hE.out, HFI.out, if_pos hev]
            clear hgo hev
            by_cases hjk : j < k
            · have hjz : (j : Int) < (k : Int) := by omega
              go_wp2_with fail
              go_ret
              exact ⟨ret_int hF.out.symm, hBr.out⟩
            · have hjz : ¬ (j : Int) < (k : Int) := by omega
              go_wp2_with fail
              go_ret
              exact ⟨ret_int hF.out.symm, hBr.out⟩
    · have hlz : ¬ (k : Int) < (n : Int) := by omega
      have hF : Hid (checkE l = 0) := by show _ = _; rw [hE.out, List.drop_of_length_le (by rw [HL.out]; omega)]; rfl
      go_wp2_with fail
      go_ret
      exact ⟨ret_int hF.out.symm, hBel.out⟩
end Go.Proofs.YtddlohbhchjjhaaGreatDoor
