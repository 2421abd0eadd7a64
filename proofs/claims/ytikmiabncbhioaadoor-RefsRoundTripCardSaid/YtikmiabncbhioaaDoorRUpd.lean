/-
  cordwoodref11.update: one update on valid refs.
-/
import Derived.Test.YtikmiabncbhioaaDoorAfter
import Derived.Test.YtikmiabncbhioaaDoorStable
import Derived.Test.YtikmiabncbhioaaDoorBlk
import Derived.Test.YtikmiabncbhioaaDoorApd
namespace Go.Proofs.YtikmiabncbhioaaDoor
open Go.RowKit

/-- Refs and an error are handed back. -/
def RetR (r : List Rf × List Upd × Int) (w : World) (e : Ending) (w' : World) : Prop :=
  ∃ A m c A' m' c', e = .returned (.tuple #[.agg #[.slice A m c, .slice A' m' c'], .int .i64 r.2.2]) ∧ Sl w' w'.heap.size 3 A m (flat rfC r.1) ∧ m ≤ c ∧ c ≤ maxLen ∧
    Sl w' w'.heap.size 5 A' m' (flat upC r.2.1) ∧ m' ≤ c' ∧ c' ≤ maxLen ∧ Below w.heap.size w w'
theorem res_cell25 {fn : Func} {c i : Tmp} (h : fn.results = #[.cell c 25, .tmp i]) {w : World} {a : Array Value} {b : Nat} {x y v : Value} (ha : a[c]?.getD undef = .pointer (some ⟨b, 0, none⟩)) (hk : Bk w b 25 #[x, y]) (hv : a[i]?.getD undef = v) :
    (results fn a).run Tryd.prog w = .ok (.tuple #[.agg #[x, y], v]) w := by
  have h0 := hk.cell 0; have h1 := hk.cell 1
  simp at h0 h1
  simp [results, h, ha, hv, go_sem, h0, h1]
theorem retR_none {x : Int} {w w' : World} {e : Ending} (he : e = .returned (.tuple #[.agg #[.slice none 0 0, .slice none 0 0], .int .i64 x])) (hb : Below w.heap.size w w') : RetR ([], [], x) w e w' :=
  ⟨none, 0, 0, none, 0, 0, he, Sl.nil _ _ _ _, Nat.le_refl _, Nat.zero_le _, Sl.nil _ _ _ _, Nat.le_refl _, Nat.zero_le _, hb⟩
def stepU (l : List Rf) (log : List Upd) (u : Upd) : List Rf × List Upd × Int :=
  if errU l u ≠ 0 then ([], [], errU l u) else if 1000 ≤ log.length then ([], [], 4) else (setL l u.1 u.2.2, log ++ [u], 0)

/-- what each operation of the last statement of update yields -/
def updPhi (A0 A1 : Option Addr) (n0 c0 n1 c1 H base : Nat) (rs' : List Rf) (log : List Upd) (u : Upd) (i : Nat) (v : Value) (W : World) : Prop :=
  match i with
  | 0 => v = .pointer (some ⟨H, 0, none⟩)
  | 1 => v = .slice A0 n0 c0
  | 2 => v = .pointer (some ⟨H + 1, 0, none⟩)
  | 3 => v = .string u.1
  | 4 => v = .pointer (some ⟨H + 1, 3, none⟩)
  | 5 => v = digV u.2.2
  | 6 => ∃ A m c, v = .slice A m c ∧ W.ownsRow base 56 3 (.slice A m c) m (flat rfC rs')
  | 7 => ∃ A, v = .slice A 0 0
  | 8 => v = .pointer (some ⟨H, 1, none⟩)
  | 9 => v = .slice A1 n1 c1
  | 10 => ∃ A c, v = .slice A n1 c ∧ Apd W base 30 5 A n1 c (flat upC log)
  | 11 => v = updV u
  | 12 => ∃ A c, v = .slice A 1 c ∧ Sl W W.heap.size 5 A 1 (flat upC [u])
  | _ => True
theorem updPhi_keep {A0 A1 : Option Addr} {n0 c0 n1 c1 H base : Nat} {rs' : List Rf} {log : List Upd} {u : Upd} (i : Nat) (v : Value) (W W' : World) (h : updPhi A0 A1 n0 c0 n1 c1 H base rs' log u i v W) (hb : Below W.heap.size W W') :
    updPhi A0 A1 n0 c0 n1 c1 H base rs' log u i v W' := by
  unfold updPhi at h ⊢
  split <;> simp only at h ⊢ <;> try exact h
  · obtain ⟨A, m, c, h1, h2⟩ := h
    refine ⟨A, m, c, h1, ?_⟩
    exact h2.kept (row := none) ⟨hb.os, hb.tape, hb.output, hb.size, fun k hk _ => hb.block k hk⟩ (by
      cases hv : (Value.slice A m c).ownBlock with
      | none => exact .inl rfl
      | some k => exact .inr (by simp))
  · obtain ⟨A, c, h1, h2⟩ := h
    exact ⟨A, c, h1, h2.below hb⟩
  · obtain ⟨A, c, h1, h2⟩ := h
    exact ⟨A, c, h1, (h2.below hb (Nat.le_refl _)).more hb.size⟩
theorem list13 {vs : List Value} (h : vs.length = 13) : ∃ v0 v1 v2 v3 v4 v5 v6 v7 v8 v9 v10 v11 v12, vs = [v0, v1, v2, v3, v4, v5, v6, v7, v8, v9, v10, v11, v12] := by
  match vs, h with
  | [v0, v1, v2, v3, v4, v5, v6, v7, v8, v9, v10, v11, v12], _ => exact ⟨v0, v1, v2, v3, v4, v5, v6, v7, v8, v9, v10, v11, v12, rfl⟩

set_option maxRecDepth 100000 in
set_option maxHeartbeats 4000000 in
theorem refUpd_any (A0 A1 : Option Addr) (n0 c0 n1 c1 B : Nat) (rs : List Rf) (log : List Upd) (u : Upd) (w : World) (h0 : Sl w B 3 A0 n0 (flat rfC rs)) (h1 : Sl w B 5 A1 n1 (flat upC log)) (hB : B ≤ w.heap.size)
    (hnc : n0 ≤ c0) (hcm : c0 ≤ maxLen) (hn0 : n0 ≤ 100000) (hn1 : n1 ≤ 1000) (hs : u.1.size ≤ maxLen) :
    Calls Tryd.prog 31 #[.agg #[.slice A0 n0 c0, .slice A1 n1 c1], updV u] w (RetR (stepU rs log u) w) := by
  have HL1 := Lib.hid (h1.len upC_len (by omega))
  have H0 := Lib.hid h0; have H1 := Lib.hid h1; clear h0 h1
  have HS := Lib.hid hs; clear hs
  have HC := Lib.hid hcm; clear hcm
  obtain ⟨s, ⟨o0, o1⟩, ⟨q0, q1⟩⟩ := u
  show Calls Tryd.prog 31 #[.agg #[.slice A0 n0 c0, .slice A1 n1 c1], .agg #[.string s, .int .u64 o0, .int .u64 o1, .int .u64 q0, .int .u64 q1]] w _
  have HR : Hid (∀ r, stepU rs log (s, (o0, o1), (q0, q1)) = r → ∀ e w', RetR r w e w' → RetR (stepU rs log (s, (o0, o1), (q0, q1))) w e w') := fun r h e w' hh => by rw [h]; exact hh
  go_enter Tryd.func31, Tryd.ntmps31
  go_wp2_with fail
  refine (refProper_any (s, (o0, o1), (q0, q1)) _ HS.out).mono ?_
  rintro e w1 ⟨rfl, hb1⟩
  -- the three boxes, in the world behind the call
  have k0 : Bk w1 w.heap.size 25 #[.slice A0 n0 c0, .slice A1 n1 c1] := (((Bk.new w 25 _).alloc _).alloc _).below hb1 (by simp; omega)
  have k1 : Bk w1 (w.heap.size + 1) 30 #[.string s, .int .u64 o0, .int .u64 o1, .int .u64 q0, .int .u64 q1] := by
    have := (Bk.new (w.alloc (.cells #[.slice A0 n0 c0, .slice A1 n1 c1] 25)) 30 #[.string s, .int .u64 o0, .int .u64 o1, .int .u64 q0, .int .u64 q1]).alloc (.cells #[.slice none 0 0, .slice none 0 0] 25)
    rw [World.size_alloc] at this
    exact this.below hb1 (by simp)
  have k2 : Bk w1 (w.heap.size + 1 + 1) 25 #[.slice none 0 0, .slice none 0 0] := by
    have := Bk.new ((w.alloc (.cells #[.slice A0 n0 c0, .slice A1 n1 c1] 25)).alloc (.cells #[.string s, .int .u64 o0, .int .u64 o1, .int .u64 q0, .int .u64 q1] 30)) 25 #[.slice none 0 0, .slice none 0 0]
    rw [World.size_alloc, World.size_alloc] at this
    exact this.below hb1 (by simp)
  have HB1 : Hid (Below w.heap.size w w1) := ((((Below.refl _ w).alloc (Nat.le_refl _) _).alloc (by simp) _).alloc (by simp; omega) _).trans (hb1.mono (by simp; omega))
  have hz1 : w.heap.size + 3 ≤ w1.heap.size := by have := hb1.size; simp at this; omega
  clear hb1
  have K0 := Lib.hid k0; have K1 := Lib.hid k1; have K2 := Lib.hid k2
  have x0 := k0.cell 0; have x1 := k0.cell 1
  have u0 := k1.cell 0; have u1 := k1.cell 1; have u2 := k1.cell 2; have u3 := k1.cell 3; have u4 := k1.cell 4
  have r0 := k2.cell 0; have r1 := k2.cell 1; have f0 := k2.free 0; have f1 := k2.free 1
  simp at x0 x1 u0 u1 u2 u3 u4 r0 r1
  clear k0 k1 k2
  have S0 := Lib.hid (H0.out.below HB1.out hB); have S1 := Lib.hid (H1.out.below HB1.out hB)
  by_cases hp : properE (s, (o0, o1), (q0, q1)) = 0
  · have HP := Lib.hid hp
    rw [HP.out]
    clear hp
    go_wp2_with fail
    have Hm : Hid (n0 ≤ maxLen) := by show _ ≤ _; unfold maxLen; omega
    obtain ⟨⟨g0, g1⟩, hg⟩ : ∃ g : Dig, getL rs s = g := ⟨_, rfl⟩
    have HG := Lib.hid hg; clear hg
    by_cases heq : ((g0, g1) : Dig) = (o0, o1)
    · have t1 := dig_eq_true heq
      simp only at t1
      have herr : Hid (errU rs (s, (o0, o1), (q0, q1)) = 0) := by
        show _ = _
        unfold errU
        rw [if_neg (by rw [HP.out]; simp), if_neg (by rw [show getL rs (s, (o0, o1), (q0, q1)).1 = getL rs s from rfl, HG.out, heq]; simp)]
      clear heq
      go_region_held3 (fun w' => w'.cell? ⟨w.heap.size, 0, none⟩ = some (.slice A0 n0 c0) ∧ w'.cell? ⟨w.heap.size + 1, 0, none⟩ = some (.string s) ∧ w'.cell? ⟨w.heap.size + 1, 1, none⟩ = some (.int .u64 o0) ∧ w'.cell? ⟨w.heap.size + 1, 2, none⟩ = some (.int .u64 o1))
        (first | exact ⟨x0, u0, u1, u2⟩ | exact ⟨(hb2.cell (p := ⟨w.heap.size, 0, none⟩) (by simp; omega)).trans x0, (hb2.cell (p := ⟨w.heap.size + 1, 0, none⟩) (by simp; omega)).trans u0, (hb2.cell (p := ⟨w.heap.size + 1, 1, none⟩) (by simp; omega)).trans u1, (hb2.cell (p := ⟨w.heap.size + 1, 2, none⟩) (by simp; omega)).trans u2⟩)
        (first | (go_at_call 39; refine (get_any A0 n0 c0 B rs s _ S0.out.drew (by show B ≤ w1.heap.size; omega) Hm.out).mono ?_; rintro e w2 ⟨rfl, hb2⟩; rw [HG.out]; simp only [digV]))
      have j0 := K0.out.drew.below hb2 (by show _ < w1.heap.size; omega)
      have j1 := K1.out.drew.below hb2 (by show _ < w1.heap.size; omega)
      have j2 := K2.out.drew.below hb2 (by show _ < w1.heap.size; omega)
      have HB2 : Hid (Below w.heap.size w w2) := HB1.out.drew.trans (hb2.mono (by show _ ≤ w1.heap.size; omega))
      have hz2 : w.heap.size + 3 ≤ w2.heap.size := by have : w1.heap.size ≤ w2.heap.size := hb2.size; omega
      clear hb2 x0 x1 u0 u1 u2 u3 u4 r0 r1 f0 f1
      have J0 := Lib.hid j0; have J1 := Lib.hid j1; have J2 := Lib.hid j2
      have x0 := j0.cell 0; have x1 := j0.cell 1
      have u0 := j1.cell 0; have u1 := j1.cell 1; have u2 := j1.cell 2; have u3 := j1.cell 3; have u4 := j1.cell 4
      have r0 := j2.cell 0; have r1 := j2.cell 1; have f0 := j2.free 0; have f1 := j2.free 1
      simp at x0 x1 u0 u1 u2 u3 u4 r0 r1
      clear j0 j1 j2
      by_cases hlim : n1 = 1000
      · have t2 : ((n1 : Int) == 1000) = true := by rw [beq_iff_eq]; omega
        have hst : Hid (stepU rs log (s, (o0, o1), (q0, q1)) = ([], [], 4)) := by
          show _ = _
          unfold stepU
          rw [herr.out, if_neg (by simp), if_pos (by rw [HL1.out]; omega)]
        clear hlim
        go_wp2
        exact bodyPost_ret (res_cell25 Tryd.results31 rfl (J2.out.set2 _ _) rfl) rfl (HR.out _ hst.out _ _ (retR_none rfl (below_set2 HB2.out (by omega) _ _)))
      · have t2 : ((n1 : Int) == 1000) = false := by rw [beq_eq_false_iff_ne]; omega
        have hst : Hid (stepU rs log (s, (o0, o1), (q0, q1)) = (setL rs s (q0, q1), log ++ [(s, (o0, o1), (q0, q1))], 0)) := by
          show _ = _
          unfold stepU
          rw [herr.out, if_neg (by simp), if_neg (by rw [HL1.out]; omega)]
        go_wp2_with fail
        obtain ⟨i0, hi, hz0, hz1', hz2'⟩ := info_parts info30
        have Hi := Lib.hid hi; have Hz0 := Lib.hid hz0; have Hz1 := Lib.hid hz1'; have Hz2 := Lib.hid hz2'
        clear hi hz0 hz1' hz2'
        have T0 := Lib.hid (H0.out.below HB2.out hB); have T1 := Lib.hid (H1.out.below HB2.out hB)
        refine wp_region_stableD 13 [27, 28, 29, 30, 31, 32, 33, 34, 35, 36, 37, 38, 39] (by kernel_rfl) (by kernel_rfl) (by kernel_rfl) (fun W => Below w2.heap.size w2 W) (fun W W' => Below W.heap.size W W')
          (updPhi A0 A1 n0 c0 n1 c1 w.heap.size w2.heap.size (setL rs s (q0, q1)) log (s, (o0, o1), (q0, q1))) (fun W W' h1 h2 => h1.trans (h2.mono h1.size)) updPhi_keep (Below.refl _ _).drew ?step ?tail
        case step =>
          intro i o vs W hi ho hv hR hphi
          obtain ⟨v0, v1, v2, v3, v4, v5, v6, v7, v8, v9, v10, v11, v12, rfl⟩ := list13 hv
          simp only [List.zip, List.zipWith, putAll, Act.put, List.setIfInBounds_toArray, List.set]
          have b0 := J0.out.below hR (by omega)
          have b1 := J1.out.below hR (by omega)
          have x0 := b0.cell 0; have x1 := b0.cell 1
          have u0 := b1.cell 0; have u1 := b1.cell 1; have u2 := b1.cell 2; have u3 := b1.cell 3; have u4 := b1.cell 4
          simp at x0 x1 u0 u1 u2 u3 u4
          have hWz := hR.size
          match i, hi, ho with
          | 0, _, rfl => exact gives_value (w' := W) (by go_simp) ⟨Below.refl _ _, rfl⟩
          | 1, _, rfl =>
            have e0 : v0 = _ := hphi ⟨0, .data⟩ (by simp) rfl v0 rfl
            subst e0
            exact gives_value (w' := W) (by go_simp) ⟨Below.refl _ _, rfl⟩
          | 2, _, rfl => exact gives_value (w' := W) (by go_simp) ⟨Below.refl _ _, rfl⟩
          | 3, _, rfl =>
            have e0 : v2 = _ := hphi ⟨2, .data⟩ (by simp) rfl v2 rfl
            subst e0
            exact gives_value (w' := W) (by go_simp) ⟨Below.refl _ _, rfl⟩
          | 4, _, rfl => exact gives_value (w' := W) (by go_simp) ⟨Below.refl _ _, rfl⟩
          | 5, _, rfl =>
            have e0 : v4 = _ := hphi ⟨4, .data⟩ (by simp) rfl v4 rfl
            subst e0
            exact gives_value (v := .agg #[.int .u64 q0, .int .u64 q1]) (w' := W) (by go_simp) ⟨Below.refl _ _, rfl⟩
          | 6, _, rfl =>
            have e1 : v1 = _ := hphi ⟨1, .data⟩ (by simp) rfl v1 rfl
            have e3 : v3 = _ := hphi ⟨3, .data⟩ (by simp) rfl v3 rfl
            have e5 : v5 = _ := hphi ⟨5, .data⟩ (by simp) rfl v5 rfl
            subst e1 e3 e5
            refine gives_call (f := 61) (args := #[.slice A0 n0 c0, .string s, digV (q0, q1)]) (by go_simp) ((set_any A0 n0 c0 B rs s (q0, q1) W (T0.out.below hR (by omega)) (by omega) hnc HC.out (by omega)).mono ?_)
            rintro e W' ⟨A, m, c, rfl, h1, h2, h3, h4, h5⟩
            exact ⟨_, rfl, h4, A, m, c, rfl, ownsRow_lower h5 hWz⟩
          | 7, _, rfl => exact gives_value (v := .slice (some ⟨W.heap.size, 0, none⟩) 0 0) (w' := W.alloc (.cells #[] 30)) (by go_simp) ⟨(Below.refl _ _).alloc (Nat.le_refl _) _, _, rfl⟩
          | 8, _, rfl => exact gives_value (w' := W) (by go_simp) ⟨Below.refl _ _, rfl⟩
          | 9, _, rfl =>
            have e0 : v8 = _ := hphi ⟨8, .data⟩ (by simp) rfl v8 rfl
            subst e0
            exact gives_value (w' := W) (by go_simp) ⟨Below.refl _ _, rfl⟩
          | 10, _, rfl =>
            obtain ⟨A7, e7⟩ : ∃ A, v7 = .slice A 0 0 := hphi ⟨7, .data⟩ (by simp) rfl v7 rfl
            have e9 : v9 = _ := hphi ⟨9, .data⟩ (by simp) rfl v9 rfl
            subst e7 e9
            obtain ⟨A2, c2, W', hr, ha, hb, _, _⟩ := run_append_empty (P := Tryd.prog) (base := w2.heap.size) 23 23 i0 _ 48 Tryd.underlying23 Hi.out Hz0.out Hz1.out Hz2.out rfl (by decide) (c' := c1) (T1.out.below hR (by omega)) (oneCells_up _) (by unfold maxLen; omega) (by omega) hWz A7
            exact gives_append (.tmp 34) (.tmp 36) 23 rfl rfl rfl hr ⟨hb, A2, c2, rfl, ha⟩
          | 11, _, rfl => exact gives_value (v := .agg #[.string s, .int .u64 o0, .int .u64 o1, .int .u64 q0, .int .u64 q1]) (w' := W) (by go_simp) ⟨Below.refl _ _, rfl⟩
          | 12, _, rfl =>
            have e11 : v11 = .agg #[.string s, .int .u64 o0, .int .u64 o1, .int .u64 q0, .int .u64 q1] := hphi ⟨11, .data⟩ (by simp) rfl v11 rfl
            subst e11
            exact gives_value (v := .slice (some ⟨W.heap.size, 0, none⟩) 1 1) (w' := W.alloc (.cells #[.string s, .int .u64 o0, .int .u64 o1, .int .u64 q0, .int .u64 q1] 30)) (by go_simp)
              ⟨(Below.refl _ _).alloc (Nat.le_refl _) _, _, _, rfl, by rw [World.size_alloc]; exact Sl.new W 30 (flat upC [(s, (o0, o1), (q0, q1))]) 1 rfl⟩
        case tail =>
          intro vs W hv hR hphi
          obtain ⟨v0, v1, v2, v3, v4, v5, v6, v7, v8, v9, v10, v11, v12, rfl⟩ := list13 hv
          simp only [List.zip, List.zipWith, putAll, Act.put, List.setIfInBounds_toArray, List.set, List.drop]
          obtain ⟨A6, m6, c6, e6, s6⟩ : ∃ A m c, v6 = .slice A m c ∧ W.ownsRow w2.heap.size 56 3 (.slice A m c) m (flat rfC (setL rs s (q0, q1))) := hphi 6 v6 rfl
          obtain ⟨A10, c10, e10, a10⟩ : ∃ A c, v10 = .slice A n1 c ∧ Apd W w2.heap.size 30 5 A n1 c (flat upC log) := hphi 10 v10 rfl
          obtain ⟨A12, c12, e12, s12⟩ : ∃ A c, v12 = .slice A 1 c ∧ Sl W W.heap.size 5 A 1 (flat upC [(s, (o0, o1), (q0, q1))]) := hphi 12 v12 rfl
          subst e6 e10 e12
          clear hphi x0 x1 u0 u1 u2 u3 u4 r0 r1 f0 f1
          have hWz := hR.size
          have b2 := J2.out.below hR (by omega)
          refine wpList_append_apd (base := w2.heap.size) W rfl (.tmp 37) (.tmp 39) 23 rfl 30 i0 _ 48 Tryd.underlying23 Hi.out Hz0.out Hz1.out Hz2.out rfl (by decide) A10 n1 c10 (flat upC log) rfl a10 _ A12 1 c12 _ rfl s12 (oneCells_up _) (by unfold maxLen; omega) (by omega) hWz ?_
          intro A13 c13 W' a13 hb13 hc13 hm13 hok13
          have hW'z := hb13.size
          have d2 := b2.below hb13 (by omega)
          have r0 := d2.cell 0; have r1 := d2.cell 1; have f0 := d2.free 0; have f1 := d2.free 1
          simp at r0 r1
          have D2 := Lib.hid d2; have A13' := Lib.hid a13; have S6 := Lib.hid (hok13 _ _ _ _ _ _ (by decide) s6); have HB13 := Lib.hid hb13; have HRR := Lib.hid hR; have HC13 := Lib.hid hc13; have HM13 := Lib.hid hm13
          clear d2 a13 s6 hb13 hR hc13 hm13 hok13 b2 a10 s12
          go_wp2
          obtain ⟨_, _, e6, hm6, hc6⟩ := ownsRow_form S6.out
          cases e6
          have hBel : Below w.heap.size w W' := HB2.out.trans ((HRR.out.trans HB13.out).mono (by omega))
          refine bodyPost_ret (res_cell25 Tryd.results31 rfl (D2.out.set2 _ _) rfl) rfl (HR.out _ hst.out _ _ ⟨A6, m6, c6, A13, n1 + 1, c13, rfl, ?_, hm6, hc6, ?_, HC13.out, HM13.out, below_set2 hBel (by omega) _ _⟩)
          · exact Sl.of_own (ownsRow_setCell_below (ownsRow_setCell_below S6.out (a := ⟨w.heap.size + 1 + 1, 0, none⟩) (by show w.heap.size + 1 + 1 < w2.heap.size; omega) _) (a := ⟨w.heap.size + 1 + 1, 1, none⟩) (by show w.heap.size + 1 + 1 < w2.heap.size; omega) _)
          · have := ((A13'.out.setCell (a := ⟨w.heap.size + 1 + 1, 0, none⟩) (by show w.heap.size + 1 + 1 < w2.heap.size; omega) (.slice A6 m6 c6)).setCell (a := ⟨w.heap.size + 1 + 1, 1, none⟩) (by show w.heap.size + 1 + 1 < w2.heap.size; omega) (.slice A13 (n1 + 1) c13)).sl
            rwa [← flat_append] at this
    · have t1 := dig_eq_false heq
      simp only at t1
      have hst : Hid (stepU rs log (s, (o0, o1), (q0, q1)) = ([], [], 17)) := by
        show _ = _
        have e1 : errU rs (s, (o0, o1), (q0, q1)) = 17 := by
          unfold errU
          rw [if_neg (by rw [HP.out]; simp), if_pos (by rw [show getL rs (s, (o0, o1), (q0, q1)).1 = getL rs s from rfl, HG.out]; exact heq)]
        unfold stepU
        rw [e1, if_pos (by simp)]
      clear heq
      go_region_held3 (fun w' => w'.cell? ⟨w.heap.size, 0, none⟩ = some (.slice A0 n0 c0) ∧ w'.cell? ⟨w.heap.size + 1, 0, none⟩ = some (.string s) ∧ w'.cell? ⟨w.heap.size + 1, 1, none⟩ = some (.int .u64 o0) ∧ w'.cell? ⟨w.heap.size + 1, 2, none⟩ = some (.int .u64 o1))
        (first | exact ⟨x0, u0, u1, u2⟩ | exact ⟨(hb2.cell (p := ⟨w.heap.size, 0, none⟩) (by simp; omega)).trans x0, (hb2.cell (p := ⟨w.heap.size + 1, 0, none⟩) (by simp; omega)).trans u0, (hb2.cell (p := ⟨w.heap.size + 1, 1, none⟩) (by simp; omega)).trans u1, (hb2.cell (p := ⟨w.heap.size + 1, 2, none⟩) (by simp; omega)).trans u2⟩)
        (first | (go_at_call 39; refine (get_any A0 n0 c0 B rs s _ S0.out.drew (by show B ≤ w1.heap.size; omega) Hm.out).mono ?_; rintro e w2 ⟨rfl, hb2⟩; rw [HG.out]; simp only [digV]))
      have j0 := K0.out.drew.below hb2 (by show _ < w1.heap.size; omega)
      have j1 := K1.out.drew.below hb2 (by show _ < w1.heap.size; omega)
      have j2 := K2.out.drew.below hb2 (by show _ < w1.heap.size; omega)
      have HB2 : Hid (Below w.heap.size w w2) := HB1.out.drew.trans (hb2.mono (by show _ ≤ w1.heap.size; omega))
      have hz2 : w.heap.size + 3 ≤ w2.heap.size := by have : w1.heap.size ≤ w2.heap.size := hb2.size; omega
      clear hb2 x0 x1 u0 u1 u2 u3 u4 r0 r1 f0 f1
      have J0 := Lib.hid j0; have J1 := Lib.hid j1; have J2 := Lib.hid j2
      have x0 := j0.cell 0; have x1 := j0.cell 1
      have u0 := j1.cell 0; have u1 := j1.cell 1; have u2 := j1.cell 2; have u3 := j1.cell 3; have u4 := j1.cell 4
      have r0 := j2.cell 0; have r1 := j2.cell 1; have f0 := j2.free 0; have f1 := j2.free 1
      simp at x0 x1 u0 u1 u2 u3 u4 r0 r1
      clear j0 j1 j2
      go_wp2
      exact bodyPost_ret (res_cell25 Tryd.results31 rfl (J2.out.set2 _ _) rfl) rfl (HR.out _ hst.out _ _ (retR_none rfl (below_set2 HB2.out (by omega) _ _)))
  · have hne : (properE (s, (o0, o1), (q0, q1)) != 0) = true := by rw [bne_iff_ne]; exact hp
    have hst : Hid (stepU rs log (s, (o0, o1), (q0, q1)) = ([], [], properE (s, (o0, o1), (q0, q1)))) := by
      show _ = _
      have e1 : errU rs (s, (o0, o1), (q0, q1)) = properE (s, (o0, o1), (q0, q1)) := if_pos hp
      unfold stepU
      rw [e1, if_pos hp]
    clear hp
    go_wp2
    exact bodyPost_ret (res_cell25 Tryd.results31 rfl (K2.out.set2 _ _) rfl) rfl (HR.out _ hst.out _ _ (retR_none rfl (below_set2 HB1.out (by omega) _ _)))
end Go.Proofs.YtikmiabncbhioaaDoor
