/-
  Lemmas: The union of two pools: where the merging of two ascending lists stands; in plain Lean. The reference's lists of files with one more, or without one: Without, With, inside. pool.Union and pool.Check. TreeDigests: the law.
-/
import Derived.Deep.QuietTactic
import Derived.BigQuiet
import Derived.Test.YtmdhlkkekidknaaGreatDoorU11

namespace Go.Proofs.YtmdhlkkekidknaaGreatDoor
open Go.RowKit

structure UAt (a b : List Itm) (i j : Nat) (out : List Itm) : Prop where
  asc : AscI out
  mem : ∀ x, x ∈ out ↔ x ∈ a.take i ∨ x ∈ b.take j
  la : ∀ x ∈ out, ∀ y ∈ a.drop i, ltD x.1 y.1
  lb : ∀ x ∈ out, ∀ y ∈ b.drop j, ltD x.1 y.1
  len : out.length ≤ i + j
structure UniR (a b r : List Itm) : Prop where
  asc : AscI r
  mem : ∀ x, x ∈ r ↔ x ∈ a ∨ x ∈ b
def Clash (a b : List Itm) : Prop := ∃ d x y, (d, x) ∈ a ∧ (d, y) ∈ b ∧ x ≠ y
section
variable {a b out : List Itm} {i j : Nat} {x y : Itm}
theorem UAt.start (a b : List Itm) : UAt a b 0 0 [] :=
  ⟨List.Pairwise.nil, (fun x => by simp), (fun x h => by cases h), (fun x h => by cases h), Nat.le_refl _⟩
theorem asc_snocI (h : AscI out) (hl : ∀ z ∈ out, ltD z.1 x.1) : AscI (out ++ [x]) := by
  unfold AscI
  rw [List.pairwise_append]
  exact ⟨h, List.pairwise_singleton _ _, fun z hz t ht => by rw [List.mem_singleton.1 ht]; exact hl z hz⟩
theorem drop_cons' {α : Type} {l : List α} {i : Nat} {x : α} (h : l[i]? = some x) : l.drop i = x :: l.drop (i + 1) := by
  obtain ⟨h1, h2⟩ := List.getElem?_eq_some_iff.1 h
  rw [List.drop_eq_getElem_cons h1, h2]
theorem take_snoc' {α : Type} {l : List α} {i : Nat} {x : α} (h : l[i]? = some x) : l.take (i + 1) = l.take i ++ [x] := by
  obtain ⟨h1, h2⟩ := List.getElem?_eq_some_iff.1 h
  rw [List.take_add_one, h]; rfl
theorem asc_next (h : AscI a) (hx : a[i]? = some x) : ∀ y ∈ a.drop (i + 1), ltD x.1 y.1 := by
  have h1 : AscI (a.drop i) := h.sublist (List.drop_sublist _ _)
  rw [drop_cons' hx] at h1
  exact fun y hy => h1.head hy
theorem UAt.add {i' j' : Nat} (h : UAt a b i j out) (hm : ∀ z, (z ∈ a.take i' ∨ z ∈ b.take j') ↔ (z ∈ a.take i ∨ z ∈ b.take j) ∨ z = x) (hlo : ∀ z ∈ out, ltD z.1 x.1)
    (hla : ∀ y ∈ a.drop i', ltD x.1 y.1 ∧ y ∈ a.drop i) (hlb : ∀ y ∈ b.drop j', ltD x.1 y.1 ∧ y ∈ b.drop j) (hl : i + j + 1 ≤ i' + j') : UAt a b i' j' (out ++ [x]) where
  asc := asc_snocI h.asc hlo
  mem z := by rw [List.mem_append, List.mem_singleton, h.mem, hm]
  la z hz y hy := by
    rcases List.mem_append.1 hz with hz | hz
    · exact h.la z hz y (hla y hy).2
    · rw [List.mem_singleton.1 hz]; exact (hla y hy).1
  lb z hz y hy := by
    rcases List.mem_append.1 hz with hz | hz
    · exact h.lb z hz y (hlb y hy).2
    · rw [List.mem_singleton.1 hz]; exact (hlb y hy).1
  len := by have := h.len; simp; omega
theorem mem_drop_next {α : Type} {l : List α} {i : Nat} {y : α} (h : y ∈ l.drop (i + 1)) : y ∈ l.drop i := by
  have := (List.drop_sublist 1 (l.drop i))
  rw [List.drop_drop] at this
  exact this.subset (by rwa [Nat.add_comm] at h ⊢)
theorem UAt.fst (h : UAt a b i j out) (ha : AscI a) (hx : a[i]? = some x) (hb : ∀ y ∈ b.drop j, ltD x.1 y.1) : UAt a b (i + 1) j (out ++ [x]) :=
  h.add (fun z => by rw [take_snoc' hx, List.mem_append, List.mem_singleton, or_right_comm])
    (fun z hz => h.la z hz x (by rw [drop_cons' hx]; simp)) (fun y hy => ⟨asc_next ha hx y hy, mem_drop_next hy⟩) (fun y hy => ⟨hb y hy, hy⟩) (by omega)
theorem UAt.snd (h : UAt a b i j out) (hb : AscI b) (hx : b[j]? = some x) (ha : ∀ y ∈ a.drop i, ltD x.1 y.1) : UAt a b i (j + 1) (out ++ [x]) :=
  h.add (fun z => by rw [take_snoc' hx, List.mem_append, List.mem_singleton, or_assoc])
    (fun z hz => h.lb z hz x (by rw [drop_cons' hx]; simp)) (fun y hy => ⟨ha y hy, hy⟩) (fun y hy => ⟨asc_next hb hx y hy, mem_drop_next hy⟩) (by omega)
theorem UAt.both (h : UAt a b i j out) (ha : AscI a) (hb : AscI b) (hx : a[i]? = some x) (hy : b[j]? = some x) : UAt a b (i + 1) (j + 1) (out ++ [x]) :=
  h.add (fun z => by rw [take_snoc' hx, take_snoc' hy, List.mem_append, List.mem_append, List.mem_singleton]; exact ⟨fun h => h.elim (fun h => h.elim (fun h => .inl (.inl h)) .inr) (fun h => h.elim (fun h => .inl (.inr h)) .inr), fun h => h.elim (fun h => h.elim (fun h => .inl (.inl h)) (fun h => .inr (.inl h))) (fun h => .inl (.inr h))⟩)
    (fun z hz => h.la z hz x (by rw [drop_cons' hx]; simp)) (fun y hy => ⟨asc_next ha hx y hy, mem_drop_next hy⟩) (fun z hz => ⟨asc_next hb hy z hz, mem_drop_next hz⟩) (by omega)
theorem above_all (hb : AscI b) (hy : b[j]? = some y) {d : Dig} (h : ltD d y.1) : ∀ z ∈ b.drop j, ltD d z.1 := by
  intro z hz
  rw [drop_cons' hy] at hz
  rcases List.mem_cons.1 hz with rfl | hz
  · exact h
  · exact ltD_trans h (asc_next hb hy z hz)
theorem none_left (hj : b.length ≤ j) {d : Dig} : ∀ z ∈ b.drop j, ltD d z.1 := by
  intro z hz; rw [List.drop_of_length_le hj] at hz; cases hz
theorem UAt.done (h : UAt a b i j out) (hi : a.length ≤ i) (hj : b.length ≤ j) : UniR a b out :=
  ⟨h.asc, fun x => by rw [h.mem, List.take_of_length_le hi, List.take_of_length_le hj]⟩
theorem clash_of (hx : a[i]? = some x) (hy : b[j]? = some y) (hd : x.1 = y.1) (hn : x.2 ≠ y.2) : Clash a b :=
  ⟨x.1, x.2, y.2, List.mem_of_getElem? hx, by rw [hd]; exact List.mem_of_getElem? hy, hn⟩
theorem UniR.plOk {r : List Itm} (h : UniR a b r) (ha : PlOk a) (hb : PlOk b) : PlOk r :=
  ⟨fun i hi => ((h.mem i).1 hi).elim (ha.enc i) (hb.enc i), fun i hi => ((h.mem i).1 hi).elim (ha.dg i) (hb.dg i), h.asc⟩
theorem UniR.sub1 {r : List Itm} (h : UniR a b r) : subP a r := fun i hi => (h.mem i).2 (.inl hi)
theorem UniR.sub2 {r : List Itm} (h : UniR a b r) : subP b r := fun i hi => (h.mem i).2 (.inr hi)
theorem UniR.uniq {r s : List Itm} (h : UniR a b r) (g : UniR a b s) : r = s := AscI.ext h.asc g.asc (fun i => by rw [h.mem, g.mem])
theorem UniR.clear {r : List Itm} (h : UniR a b r) : ¬ Clash a b := by
  rintro ⟨d, u, v, h1, h2, hn⟩
  have := h.asc.uniq ((h.mem _).2 (.inl h1)) ((h.mem _).2 (.inr h2)) rfl
  injection this with _ h3
  exact hn h3
end
end Go.Proofs.YtmdhlkkekidknaaGreatDoor

namespace Go.Proofs.YtmdhlkkekidknaaGreatDoor
open Go.RowKit

theorem halt_app9 {P : Program} {ops : Array Oper} {rest : List Oper} {o : Oper} {a : Act} {w : World} {Q : Exit → Act → World → Prop} (s x : Operand) (t : TypeId) (_ : o.op = .call { callee := .builtin .append, args := #[s, x], argTypes := #[t, t] })
    (h : Hid (wpList P ops Q (o :: rest) a w)) : wpList P ops Q (o :: rest) a w := h
theorem apd_drewN {w : World} {base size n c : Nat} {e : TypeId} {A : Option Addr} {xs : List Value} (h : Apd w base e size A n c xs) (k : Nat) : Apd (w.drewN k) base e size A n c xs := h
end Go.Proofs.YtmdhlkkekidknaaGreatDoor

namespace Go.Proofs.YtmdhlkkekidknaaGreatDoor
open Go.RowKit

def UnE (a b : List Itm) (w : World) (e : Ending) (w' : World) : Prop :=
  ((∃ r A c, UniR a b r ∧ e = .returned (.tuple #[.slice A r.length c, .int .i64 0]) ∧ Sl w' w'.heap.size 3 A r.length (flat itC r) ∧ r.length ≤ c ∧ c ≤ maxLen) ∨ (Clash a b ∧ e = .returned (.tuple #[.slice none 0 0, .int .i64 16]))) ∧ Below w.heap.size w w'
set_option maxRecDepth 100000 in
set_option maxHeartbeats 16000000 in
theorem punion_any (A B : Option Addr) (n1 c1 n2 c2 Bs : Nat) (a b : List Itm) (w : World) (h0 : Sl w Bs 3 A n1 (flat itC a)) (h1 : Sl w Bs 3 B n2 (flat itC b)) (hB : Bs ≤ w.heap.size) (hn1 : n1 ≤ 400000) (hn2 : n2 ≤ 400000) (ha : AscI a) (hb : AscI b) :
    Calls Tryz.prog 31 #[.slice A n1 c1, .slice B n2 c2] w (UnE a b w) := by
  have HL1 := Lib.hid (h0.len itC_len (by omega)); have HL2 := Lib.hid (h1.len itC_len (by omega))
  have H0 := Lib.hid h0; have H1 := Lib.hid h1; have HAA := Lib.hid ha; have HAB := Lib.hid hb
  clear h0 h1 ha hb
  obtain ⟨i0, hi, hz0, hz1, hz2⟩ := info_parts infoIt
  have Hi := Lib.hid hi; have Hz0 := Lib.hid hz0; have Hz1 := Lib.hid hz1; have Hz2 := Lib.hid hz2
  clear hi hz0 hz1 hz2
  go_enter Tryz.func31, Tryz.ntmps31
  go_wp2_with fail
  go_loopw [6, 7, 8] (fun q u v wr => ∃ (out : List Itm) (A' : Option Addr) (c' i j : Nat), u = .int .i64 (i : Int) ∧ v = .int .i64 (j : Int) ∧ q = .slice A' out.length c' ∧ out.length ≤ c' ∧ c' ≤ maxLen ∧ Hid (i ≤ n1 ∧ j ≤ n2 ∧ UAt a b i j out) ∧ Hid (Apd wr w.heap.size 38 3 A' out.length c' (flat itC out)) ∧ Hid (Below w.heap.size w wr)) (fun _ u v _ => (n1 - (intOf u).toNat) + (n2 - (intOf v).toNat))
  case atStart => exact ⟨[], none, 0, 0, 0, rfl, rfl, rfl, Nat.le_refl _, Nat.zero_le _, ⟨Nat.zero_le _, Nat.zero_le _, UAt.start a b⟩, .inr ⟨rfl, rfl, rfl⟩, Below.refl _ _⟩
  case round =>
    obtain ⟨out, A', c', i, j, rfl, rfl, rfl, hmc, hcm, hAt, hO, hBel⟩ := hrel
    have HO := Lib.hid hO.out; have HBE := Lib.hid hBel.out
    obtain ⟨hi1, hj2, hat⟩ := hAt.out
    have HAT := Lib.hid hat
    have hol := hat.len
    obtain ⟨m, hm⟩ : ∃ m, out.length = m := ⟨_, rfl⟩
    have HM := Lib.hid hm
    rw [hm] at hmc hol HO ⊢
    have zr : w.heap.size ≤ wr.heap.size := HBE.out.size
    clear hO hBel hm hAt hat
    by_cases hi : i < n1
    · have hiz : (i : Int) < (n1 : Int) := by omega
      have hie : ((i : Int) == (n1 : Int)) = false := by rw [beq_eq_false_iff_ne]; omega
      obtain ⟨ba, oa, x, rfl, hba, hx, x0, x1', x2'⟩ := (H0.out.below HBE.out hB).it hi
      have HX := Lib.hid hx
      clear hx
      obtain ⟨⟨x1, x2⟩, xs⟩ := x
      simp only at x0 x1' x2'
      by_cases hj : j < n2
      · have hjz : (j : Int) < (n2 : Int) := by omega
        have hje : ((j : Int) == (n2 : Int)) = false := by rw [beq_eq_false_iff_ne]; omega
        obtain ⟨bb, ob, y, rfl, hbb, hy, y0, y1', y2'⟩ := (H1.out.below HBE.out hB).it hj
        have HY := Lib.hid hy
        clear hy
        obtain ⟨⟨y1, y2⟩, ys⟩ := y
        simp only at y0 y1' y2'
        have HCM := Lib.hid (fun W => dcmp_any (x1, x2) (y1, y2) W)
        unfold CmE at HCM
        simp only [digV] at HCM
        obtain ⟨cz, hcz⟩ : ∃ cz, cmpD (x1, x2) (y1, y2) = cz := ⟨_, rfl⟩
        rw [hcz] at HCM
        have HCZ := Lib.hid hcz
        clear hcz
        have H3 : Hid (cz = -1 ∧ ltD (x1, x2) (y1, y2) ∨ cz = 0 ∧ (x1, x2) = (y1, y2) ∨ cz = 1 ∧ ltD (y1, y2) (x1, x2)) := by
          show _ ∨ _ ∨ _
          rw [← HCZ.out]
          unfold cmpD
          by_cases e : (x1, x2) = (y1, y2)
          · rw [if_pos e]; exact .inr (.inl ⟨rfl, e⟩)
          · rw [if_neg e]
            by_cases l : ltD (x1, x2) (y1, y2)
            · rw [if_pos l]; exact .inl ⟨rfl, l⟩
            · rw [if_neg l]
              refine .inr (.inr ⟨rfl, ?_⟩)
              by_cases l2 : ltD (y1, y2) (x1, x2)
              · exact l2
              · exact absurd (ltD_conn l l2) e
        have zba : ba < wr.heap.size := by omega
        have zbb : bb < wr.heap.size := by omega
        go_wp2_with fail
        go_region_held3 (fun w' => w'.cell? ⟨ba, oa + i * 3, none⟩ = some (.int .u64 x1) ∧ w'.cell? ⟨ba, oa + i * 3 + 1, none⟩ = some (.int .u64 x2) ∧ w'.cell? ⟨bb, ob + j * 3, none⟩ = some (.int .u64 y1) ∧ w'.cell? ⟨bb, ob + j * 3 + 1, none⟩ = some (.int .u64 y2))
          (first | exact ⟨x0, x1', y0, y1'⟩ | exact ⟨n0.out, n1'.out, n2'.out, n3.out⟩)
          (first
            | (go_at_call 62; refine (HCM.out _).mono ?_; rintro e w8 ⟨rfl, hb8⟩
               have n0 := Lib.hid ((hb8.cell (p := ⟨ba, oa + i * 3, none⟩) (by show ba < _; simp; omega)).trans x0); have n1' := Lib.hid ((hb8.cell (p := ⟨ba, oa + i * 3 + 1, none⟩) (by show ba < _; simp; omega)).trans x1'); have n2' := Lib.hid ((hb8.cell (p := ⟨bb, ob + j * 3, none⟩) (by show bb < _; simp; omega)).trans y0); have n3 := Lib.hid ((hb8.cell (p := ⟨bb, ob + j * 3 + 1, none⟩) (by show bb < _; simp; omega)).trans y1')
               have hR8 : Hid (Below wr.heap.size wr w8) := (Below.refl _ wr).drew.trans hb8
               clear hb8))
        have x0 := (hR8.out.cell (p := ⟨ba, oa + i * 3, none⟩) (by show ba < _; omega)).trans x0
        have x1' := (hR8.out.cell (p := ⟨ba, oa + i * 3 + 1, none⟩) (by show ba < _; omega)).trans x1'
        have x2' := (hR8.out.cell (p := ⟨ba, oa + i * 3 + 2, none⟩) (by show ba < _; omega)).trans x2'
        have y0 := (hR8.out.cell (p := ⟨bb, ob + j * 3, none⟩) (by show bb < _; omega)).trans y0
        have y1' := (hR8.out.cell (p := ⟨bb, ob + j * 3 + 1, none⟩) (by show bb < _; omega)).trans y1'
        have y2' := (hR8.out.cell (p := ⟨bb, ob + j * 3 + 2, none⟩) (by show bb < _; omega)).trans y2'
        replace HO := Lib.hid (HO.out.below hR8.out)
        replace HBE : Hid (Below w.heap.size w w8) := HBE.out.trans (hR8.out.mono zr)
        have zr8 : w.heap.size ≤ w8.heap.size := HBE.out.size
        clear n0 n1' n2' n3 hR8 HCZ
        rcases H3.out with ⟨hcz, hl⟩ | ⟨hcz, he⟩ | ⟨hcz, hl⟩
        · have HN : Hid (i + 1 ≤ n1 ∧ j ≤ n2 ∧ UAt a b (i + 1) j (out ++ [((x1, x2), xs)])) := ⟨by omega, by omega, HAT.out.fst HAA.out HX.out (above_all HAB.out HY.out hl)⟩
          subst hcz
          clear H3 hl HCM
          go_wp2_with fail
          go_quiet (fail)
          go_wp2_with (at_builtin; refine halt_app9 (.tmp 58) (.tmp 63) 23 rfl ?_)
          refine unhalt ?_
          refine wpList_append_apd (base := w.heap.size) (size := 3) _ rfl (.tmp 58) (.tmp 63) 23 rfl 38 i0 _ 32 Tryz.underlying23 Hi.out Hz0.out Hz1.out Hz2.out rfl (by decide) A' m c' _ rfl (Apd.below (apd_drewN HO.out _) ((Below.refl _ _).alloc (Nat.le_refl _) _)) _ _ 1 1 (flat itC [((x1, x2), xs)]) rfl (Sl.of_bk (n := 1) (size := 3) (Bk.new _ _ _) rfl) (itC_one _) (by unfold maxLen; omega) (by omega) (by rw [World.size_alloc]; exact Nat.le_succ_of_le zr8) ?_
          intro A4 c4 w4 ha4 hb4 hn4 hm4 _
          rw [← flat_append] at ha4
          have HA4 := Lib.hid ha4
          have HB4 : Hid (Below w.heap.size w w4) := (Below.alloc (below_drewN HBE.out _) zr8 _).trans hb4
          clear ha4 hb4
          go_wp2_with fail
          go_roundw
          case rel => exact ⟨out ++ [((x1, x2), xs)], A4, c4, i + 1, j, by go_num, by go_num, by rw [List.length_append, HM.out]; rfl, by rw [List.length_append, HM.out]; exact hn4, hm4, HN.out, by rw [List.length_append, HM.out]; exact HA4.out, HB4.out⟩
          case measure => simp [intOf]; omega
        · injection he with he1 he2
          subst he1; subst he2; subst hcz
          have t2 := str_dec xs ys
          have l1 : (xs.toList != ys.toList) = !(decide (xs = ys)) := by rw [← str_dec]; rfl
          clear H3 HCM
          by_cases hs : xs = ys
          · subst hs
            have HN : Hid (i + 1 ≤ n1 ∧ j + 1 ≤ n2 ∧ UAt a b (i + 1) (j + 1) (out ++ [((x1, x2), xs)])) := ⟨by omega, by omega, HAT.out.both HAA.out HAB.out HX.out HY.out⟩
            rw [decide_eq_true rfl] at t2 l1
            go_wp2_with fail
            go_quiet (fail)
            go_wp2_with (at_builtin; refine halt_app9 (.tmp 58) (.tmp 63) 23 rfl ?_)
            refine unhalt ?_
            refine wpList_append_apd (base := w.heap.size) (size := 3) _ rfl (.tmp 58) (.tmp 63) 23 rfl 38 i0 _ 32 Tryz.underlying23 Hi.out Hz0.out Hz1.out Hz2.out rfl (by decide) A' m c' _ rfl (Apd.below (apd_drewN HO.out _) ((Below.refl _ _).alloc (Nat.le_refl _) _)) _ _ 1 1 (flat itC [((x1, x2), xs)]) rfl (Sl.of_bk (n := 1) (size := 3) (Bk.new _ _ _) rfl) (itC_one _) (by unfold maxLen; omega) (by omega) (by rw [World.size_alloc]; exact Nat.le_succ_of_le zr8) ?_
            intro A4 c4 w4 ha4 hb4 hn4 hm4 _
            rw [← flat_append] at ha4
            have HA4 := Lib.hid ha4
            have HB4 : Hid (Below w.heap.size w w4) := (Below.alloc (below_drewN HBE.out _) zr8 _).trans hb4
            clear ha4 hb4
            go_wp2_with fail
            go_roundw
            case rel => exact ⟨out ++ [((x1, x2), xs)], A4, c4, i + 1, j + 1, by go_num, by go_num, by rw [List.length_append, HM.out]; rfl, by rw [List.length_append, HM.out]; exact hn4, hm4, HN.out, by rw [List.length_append, HM.out]; exact HA4.out, HB4.out⟩
            case measure => simp [intOf]; omega
          · have HCL : Hid (Clash a b) := clash_of HX.out HY.out rfl hs
            rw [decide_eq_false hs] at t2 l1
            clear hs
            go_wp2_with fail
            go_quiet (fail)
            go_wp2_with fail
            go_ret2
            exact ⟨.inr ⟨HCL.out, rfl⟩, below_drewN HBE.out _⟩
        · have HN : Hid (i ≤ n1 ∧ j + 1 ≤ n2 ∧ UAt a b i (j + 1) (out ++ [((y1, y2), ys)])) := ⟨by omega, by omega, HAT.out.snd HAB.out HY.out (above_all HAA.out HX.out hl)⟩
          subst hcz
          clear H3 hl HCM
          go_wp2_with fail
          go_quiet (fail)
          go_wp2_with (at_builtin; refine halt_app9 (.tmp 69) (.tmp 74) 23 rfl ?_)
          refine unhalt ?_
          refine wpList_append_apd (base := w.heap.size) (size := 3) _ rfl (.tmp 69) (.tmp 74) 23 rfl 38 i0 _ 32 Tryz.underlying23 Hi.out Hz0.out Hz1.out Hz2.out rfl (by decide) A' m c' _ rfl (Apd.below (apd_drewN HO.out _) ((Below.refl _ _).alloc (Nat.le_refl _) _)) _ _ 1 1 (flat itC [((y1, y2), ys)]) rfl (Sl.of_bk (n := 1) (size := 3) (Bk.new _ _ _) rfl) (itC_one _) (by unfold maxLen; omega) (by omega) (by rw [World.size_alloc]; exact Nat.le_succ_of_le zr8) ?_
          intro A4 c4 w4 ha4 hb4 hn4 hm4 _
          rw [← flat_append] at ha4
          have HA4 := Lib.hid ha4
          have HB4 : Hid (Below w.heap.size w w4) := (Below.alloc (below_drewN HBE.out _) zr8 _).trans hb4
          clear ha4 hb4
          go_wp2_with fail
          go_roundw
          case rel => exact ⟨out ++ [((y1, y2), ys)], A4, c4, i, j + 1, by go_num, by go_num, by rw [List.length_append, HM.out]; rfl, by rw [List.length_append, HM.out]; exact hn4, hm4, HN.out, by rw [List.length_append, HM.out]; exact HA4.out, HB4.out⟩
          case measure => simp [intOf]; omega
      · have hj' : j = n2 := by omega
        subst hj'
        have HN : Hid (i + 1 ≤ n1 ∧ j ≤ j ∧ UAt a b (i + 1) j (out ++ [((x1, x2), xs)])) := ⟨by omega, Nat.le_refl _, HAT.out.fst HAA.out HX.out (none_left (by rw [HL2.out]; exact Nat.le_refl _))⟩
        go_wp2_with fail
        go_quiet (fail)
        go_wp2_with (at_builtin; refine halt_app9 (.tmp 58) (.tmp 63) 23 rfl ?_)
        refine unhalt ?_
        refine wpList_append_apd (base := w.heap.size) (size := 3) _ rfl (.tmp 58) (.tmp 63) 23 rfl 38 i0 _ 32 Tryz.underlying23 Hi.out Hz0.out Hz1.out Hz2.out rfl (by decide) A' m c' _ rfl (Apd.below (apd_drewN HO.out _) ((Below.refl _ _).alloc (Nat.le_refl _) _)) _ _ 1 1 (flat itC [((x1, x2), xs)]) rfl (Sl.of_bk (n := 1) (size := 3) (Bk.new _ _ _) rfl) (itC_one _) (by unfold maxLen; omega) (by omega) (by rw [World.size_alloc]; exact Nat.le_succ_of_le zr) ?_
        intro A4 c4 w4 ha4 hb4 hn4 hm4 _
        rw [← flat_append] at ha4
        have HA4 := Lib.hid ha4
        have HB4 : Hid (Below w.heap.size w w4) := (Below.alloc (below_drewN HBE.out _) zr _).trans hb4
        clear ha4 hb4
        go_wp2_with fail
        go_roundw
        case rel => exact ⟨out ++ [((x1, x2), xs)], A4, c4, i + 1, j, by go_num, by go_num, by rw [List.length_append, HM.out]; rfl, by rw [List.length_append, HM.out]; exact hn4, hm4, HN.out, by rw [List.length_append, HM.out]; exact HA4.out, HB4.out⟩
        case measure => simp [intOf]; omega
    · have hi' : i = n1 := by omega
      subst hi'
      have hiz : ¬ (i : Int) < (i : Int) := by omega
      by_cases hj : j < n2
      · have hjz : (j : Int) < (n2 : Int) := by omega
        obtain ⟨bb, ob, y, rfl, hbb, hy, y0, y1', y2'⟩ := (H1.out.below HBE.out hB).it hj
        have HY := Lib.hid hy
        clear hy
        obtain ⟨⟨y1, y2⟩, ys⟩ := y
        simp only at y0 y1' y2'
        have HN : Hid (i ≤ i ∧ j + 1 ≤ n2 ∧ UAt a b i (j + 1) (out ++ [((y1, y2), ys)])) := ⟨Nat.le_refl _, by omega, HAT.out.snd HAB.out HY.out (none_left (by rw [HL1.out]; exact Nat.le_refl _))⟩
        go_wp2_with fail
        go_quiet (fail)
        go_wp2_with (at_builtin; refine halt_app9 (.tmp 69) (.tmp 74) 23 rfl ?_)
        refine unhalt ?_
        refine wpList_append_apd (base := w.heap.size) (size := 3) _ rfl (.tmp 69) (.tmp 74) 23 rfl 38 i0 _ 32 Tryz.underlying23 Hi.out Hz0.out Hz1.out Hz2.out rfl (by decide) A' m c' _ rfl (Apd.below (apd_drewN HO.out _) ((Below.refl _ _).alloc (Nat.le_refl _) _)) _ _ 1 1 (flat itC [((y1, y2), ys)]) rfl (Sl.of_bk (n := 1) (size := 3) (Bk.new _ _ _) rfl) (itC_one _) (by unfold maxLen; omega) (by omega) (by rw [World.size_alloc]; exact Nat.le_succ_of_le zr) ?_
        intro A4 c4 w4 ha4 hb4 hn4 hm4 _
        rw [← flat_append] at ha4
        have HA4 := Lib.hid ha4
        have HB4 : Hid (Below w.heap.size w w4) := (Below.alloc (below_drewN HBE.out _) zr _).trans hb4
        clear ha4 hb4
        go_wp2_with fail
        go_roundw
        case rel => exact ⟨out ++ [((y1, y2), ys)], A4, c4, i, j + 1, by go_num, by go_num, by rw [List.length_append, HM.out]; rfl, by rw [List.length_append, HM.out]; exact hn4, hm4, HN.out, by rw [List.length_append, HM.out]; exact HA4.out, HB4.out⟩
        case measure => simp [intOf]; omega
      · have hj' : j = n2 := by omega
        subst hj'
        have hjz : ¬ (j : Int) < (j : Int) := by omega
        have HU : Hid (UniR a b out) := HAT.out.done (by rw [HL1.out]; exact Nat.le_refl _) (by rw [HL2.out]; exact Nat.le_refl _)
        go_wp2_with fail
        go_ret2
        exact ⟨.inl ⟨out, A', c', HU.out, by rw [HM.out]; rfl, by rw [HM.out]; exact HO.out.sl, by rw [HM.out]; exact hmc, hcm⟩, HBE.out⟩
end Go.Proofs.YtmdhlkkekidknaaGreatDoor

namespace Go.Proofs.YtmdhlkkekidknaaGreatDoor
open Go.RowKit

set_option maxRecDepth 100000 in
set_option maxHeartbeats 32000000 in
theorem lawDig_any (A1 A2 : Option Addr) (n1 c1 n2 c2 : Nat) (fa fb : List Fl) (w : World) (h1 : Sl w w.heap.size 2 A1 n1 (flat flC fa)) (h2 : Sl w w.heap.size 2 A2 n2 (flat flC fb)) (m1 : n1 ≤ maxLen) (m2 : n2 ≤ maxLen) (s1 : ∀ f ∈ fa, f.1.size ≤ maxLen ∧ f.2.size ≤ maxLen) (s2 : ∀ f ∈ fb, f.1.size ≤ maxLen ∧ f.2.size ≤ maxLen) :
    Calls Tryz.prog 8 #[.slice A1 n1 c1, .slice A2 n2 c2] w (LawE w) := by
  have H1 := Lib.hid h1; have H2 := Lib.hid h2
  have HG1 := Lib.hid (great9_any A1 n1 c1 w.heap.size fa w h1 m1 s1)
  have HG2 := Lib.hid (great9_any A2 n2 c2 w.heap.size fb w h2 m2 s2)
  unfold Gr9End at HG1 HG2
  have HAW := Lib.hid awake_any
  unfold LawE at HAW ⊢
  have awk : Hid (∀ W, Below w.heap.size w W → Calls Tryz.prog 14 #[] W fun e w' => e = .returned (.bool true) ∧ Below w.heap.size w w') := fun W hW => (HAW.out W).mono fun e w' ⟨h1, h2⟩ => ⟨h1, hW.trans (h2.mono hW.size)⟩
  have HB : Hid (Below w.heap.size w w) := Below.refl _ _
  clear h1 h2 s1 s2 m1 m2
  go_enter Tryz.func8, Tryz.ntmps8
  go_wp2_with fail
  refine HG1.out.mono ?_
  rintro e w1 ⟨r, rfl, hr, rfl⟩
  have HR1 := Lib.hid hr
  clear hr HG1
  cases r with
  | true =>
    clear HR1 HG2
    go_wp2_with fail
    refine (awk.out _ (HB.out)).mono ?_
    rintro e wz ⟨rfl, hb⟩
    have HBZ := Lib.hid hb; clear hb
    go_wp2_with fail
    go_ret
    exact ⟨rfl, HBZ.out⟩
  | false =>
    obtain ⟨hn1, hf1⟩ := HR1.out rfl
    have HF1 := Lib.hid hf1
    clear hf1 HR1
    go_wp2_with fail
    refine HG2.out.mono ?_
    rintro e w1 ⟨r, rfl, hr, rfl⟩
    have HR2 := Lib.hid hr
    clear hr HG2
    cases r with
    | true =>
      clear HR2
      go_wp2_with fail
      refine (awk.out _ (HB.out)).mono ?_
      rintro e wz ⟨rfl, hb⟩
      have HBZ := Lib.hid hb; clear hb
      go_wp2_with fail
      go_ret
      exact ⟨rfl, HBZ.out⟩
    | false =>
      obtain ⟨hn2, hf2⟩ := HR2.out rfl
      have HF2 := Lib.hid hf2
      have HS1 : Hid (∀ f ∈ fa, f.1.size ≤ 1000000 ∧ f.2.size ≤ 60000) := fun f hf => ⟨by have := (HF1.out f hf).1; omega, by have := (HF1.out f hf).2; omega⟩
      have HS2 : Hid (∀ f ∈ fb, f.1.size ≤ 1000000 ∧ f.2.size ≤ 60000) := fun f hf => ⟨by have := (HF2.out f hf).1; omega, by have := (HF2.out f hf).2; omega⟩
      clear hf2 HR2
      have HST := Lib.hid (tstore_any none 0 0 w.heap.size [] A1 n1 c1 fa w ⟨rfl, fun h => absurd h (Nat.lt_irrefl 0)⟩ H1.out (Nat.le_refl _) (Nat.le_refl _) (Nat.zero_le _) (Nat.zero_le _) (by omega) PlOk.nil HS1.out)
      go_wp2_with fail
      refine HST.out.mono ?_
      rintro e w2 hst
      obtain ⟨hst, hb⟩ := str_of (fun f hf => (HS1.out f hf).2) hst
      replace HB : Hid (Below w.heap.size w w2) := HB.out.trans (hb.mono HB.out.size)
      replace H1 := Lib.hid (sl_on H1.out hb)
      replace H2 := Lib.hid (sl_on H2.out hb)
      clear hb
      clear HST
      rcases hst with ⟨z, hz, rfl⟩ | ⟨hok, hasc, q, ⟨d1, d2⟩, A3, c3, hsto, hsr, rfl, hsl, hqc, hcm⟩
      case inl =>
        have t1 : (z != 0) = true := by rw [bne_iff_ne]; exact hz
        clear hz
        simp only [digV, zD]
        obtain ⟨W3, hW3⟩ : ∃ W, w2.alloc (.cells #[.int .u64 0, .int .u64 0] 30) = W := ⟨_, rfl⟩
        have hb : Below w2.heap.size w2 W3 := by rw [← hW3]; exact (Below.refl _ w2).alloc (Nat.le_refl _) _
        replace HB : Hid (Below w.heap.size w W3) := HB.out.trans (hb.mono HB.out.size)
        replace H1 := Lib.hid (sl_on H1.out hb)
        replace H2 := Lib.hid (sl_on H2.out hb)
        clear hb
        have HW3 := Lib.hid hW3
        clear hW3
        have HST := Lib.hid (tstore_any none 0 0 W3.heap.size [] A2 n2 c2 fb W3 ⟨rfl, fun h => absurd h (Nat.lt_irrefl 0)⟩ H2.out (Nat.le_refl _) (Nat.le_refl _) (Nat.zero_le _) (Nat.zero_le _) (by omega) PlOk.nil HS2.out)
        go_wp2_with fail
        rw [HW3.out]
        refine HST.out.mono ?_
        rintro e w4 hst
        obtain ⟨hst, hb⟩ := str_of (fun f hf => (HS2.out f hf).2) hst
        replace HB : Hid (Below w.heap.size w w4) := HB.out.trans (hb.mono HB.out.size)
        clear hb
        clear HST HW3
        rcases hst with ⟨z2, hz2, rfl⟩ | ⟨_, _, q2, ⟨e1, e2⟩, A4, c4, _, _, rfl, _, _, _⟩
        all_goals
          simp only [digV, zD]
          go_wp2_with fail
          refine (awk.out _ (HB.out.alloc HB.out.size _)).mono ?_
          rintro e wz ⟨rfl, hb⟩
          have HBZ := Lib.hid hb; clear hb
          go_wp2_with fail
          go_ret
          exact ⟨rfl, HBZ.out⟩
      case inr =>
        have HOK := Lib.hid hok; have HASC := Lib.hid hasc
        obtain ⟨hstd, hpl, _⟩ := sto_std 101 [] fa q (d1, d2) hok PlOk.nil hsto
        have HSTD := Lib.hid hstd; have HPL := Lib.hid hpl; have HSTO := Lib.hid hsto
        have hq7 : q.length ≤ 30000 := by
          have h1 := hsr.len
          have h2 := wt_ok hok
          simp only [List.length_nil] at h1
          omega
        have HQ := Lib.hid hsl
        clear hok hasc hsto hsr hsl hstd hpl hqc hcm
        simp only [digV]
        obtain ⟨W3, hW3⟩ : ∃ W, w2.alloc (.cells #[.int .u64 d1, .int .u64 d2] 30) = W := ⟨_, rfl⟩
        have hb : Below w2.heap.size w2 W3 := by rw [← hW3]; exact (Below.refl _ w2).alloc (Nat.le_refl _) _
        have HK : Hid (Bk W3 w2.heap.size 30 #[.int .u64 d1, .int .u64 d2]) := by rw [← hW3]; exact Bk.new w2 _ _
        replace HB : Hid (Below w.heap.size w W3) := HB.out.trans (hb.mono HB.out.size)
        replace H1 := Lib.hid (sl_on H1.out hb)
        replace H2 := Lib.hid (sl_on H2.out hb)
        replace HQ := Lib.hid (sl_on HQ.out hb)
        clear hb
        have HW3 := Lib.hid hW3
        clear hW3
        have HST := Lib.hid (tstore_any none 0 0 W3.heap.size [] A2 n2 c2 fb W3 ⟨rfl, fun h => absurd h (Nat.lt_irrefl 0)⟩ H2.out (Nat.le_refl _) (Nat.le_refl _) (Nat.zero_le _) (Nat.zero_le _) (by omega) PlOk.nil HS2.out)
        go_wp2_with fail
        rw [HW3.out]
        refine HST.out.mono ?_
        rintro e w4 hst
        obtain ⟨hst, hb⟩ := str_of (fun f hf => (HS2.out f hf).2) hst
        replace HB : Hid (Below w.heap.size w w4) := HB.out.trans (hb.mono HB.out.size)
        replace H1 := Lib.hid (sl_on H1.out hb)
        replace H2 := Lib.hid (sl_on H2.out hb)
        replace HQ := Lib.hid (sl_on HQ.out hb)
        replace HK := Lib.hid (HK.out.below hb HK.out.lt)
        clear hb
        clear HST HW3
        rcases hst with ⟨z, hz, rfl⟩ | ⟨hok2, hasc2, q2, ⟨e1, e2⟩, A4, c4, hsto, hsr, rfl, hsl, _, _⟩
        case inl =>
          have t1 : (z != 0) = true := by rw [bne_iff_ne]; exact hz
          clear hz
          simp only [digV, zD]
          go_wp2_with fail
          refine (awk.out _ (HB.out.alloc HB.out.size _)).mono ?_
          rintro e wz ⟨rfl, hb⟩
          have HBZ := Lib.hid hb; clear hb
          go_wp2_with fail
          go_ret
          exact ⟨rfl, HBZ.out⟩
        case inr =>
          have HOK2 := Lib.hid hok2; have HASC2 := Lib.hid hasc2
          obtain ⟨hstd, hpl, _⟩ := sto_std 101 [] fb q2 (e1, e2) hok2 PlOk.nil hsto
          have HSTD2 := Lib.hid hstd; have HPL2 := Lib.hid hpl; have HSTO2 := Lib.hid hsto
          have hq27 : q2.length ≤ 30000 := by
            have h1 := hsr.len
            have h2 := wt_ok hok2
            simp only [List.length_nil] at h1
            omega
          have HQ2 := Lib.hid hsl
          clear hok2 hasc2 hsto hsr hsl hstd hpl
          simp only [digV]
          obtain ⟨W5, hW5⟩ : ∃ W, w4.alloc (.cells #[.int .u64 e1, .int .u64 e2] 30) = W := ⟨_, rfl⟩
          have hb : Below w4.heap.size w4 W5 := by rw [← hW5]; exact (Below.refl _ w4).alloc (Nat.le_refl _) _
          have HX : Hid (Bk W5 w4.heap.size 30 #[.int .u64 e1, .int .u64 e2]) := by rw [← hW5]; exact Bk.new w4 _ _
          replace HB : Hid (Below w.heap.size w W5) := HB.out.trans (hb.mono HB.out.size)
          replace H1 := Lib.hid (sl_on H1.out hb)
          replace H2 := Lib.hid (sl_on H2.out hb)
          replace HQ := Lib.hid (sl_on HQ.out hb)
          replace HQ2 := Lib.hid (sl_on HQ2.out hb)
          replace HK := Lib.hid (HK.out.below hb HK.out.lt)
          clear hb
          have HW5 := Lib.hid hW5
          clear hW5
          have HC := Lib.hid (punion_any A3 A4 q.length c3 q2.length c4 W5.heap.size q q2 W5 HQ.out HQ2.out (Nat.le_refl _) (by omega) (by omega) HPL.out.asc HPL2.out.asc)
          unfold UnE at HC
          go_wp2_with fail
          rw [HW5.out]
          refine HC.out.mono ?_
          rintro e w6 ⟨hq, hb⟩
          replace HB : Hid (Below w.heap.size w w6) := HB.out.trans (hb.mono HB.out.size)
          replace H1 := Lib.hid (sl_on H1.out hb)
          replace H2 := Lib.hid (sl_on H2.out hb)
          replace HK := Lib.hid (HK.out.below hb HK.out.lt)
          replace HX := Lib.hid (HX.out.below hb HX.out.lt)
          clear hb
          clear HC HW5 HQ HQ2
          rcases hq with ⟨r, A5, c5, hu, rfl, _⟩ | ⟨_, rfl⟩
          case inr =>
            go_wp2_with fail
            refine (awk.out _ (HB.out)).mono ?_
            rintro e wz ⟨rfl, hb⟩
            have HBZ := Lib.hid hb; clear hb
            go_wp2_with fail
            go_ret
            exact ⟨rfl, HBZ.out⟩
          case inl =>
            have HU : Hid ((d1, d2) = (e1, e2) ↔ fa = fb) := by
              constructor
              · intro h
                exact dig_same HPL.out HPL2.out (hu.plOk HPL.out HPL2.out) hu.sub1 hu.sub2 HOK.out HASC.out HOK2.out HASC2.out HSTD.out HSTD2.out h
              · intro h
                have h1 := HSTO.out
                rw [h, HSTO2.out] at h1
                injection h1 with h1
                injection h1 with h1 h2
                exact h2.symm
            have HEQ : Hid ((d1 == e1 && d2 == e2) = decide (fa = fb)) := by
              show _ = _
              by_cases he : fa = fb
              · have h := HU.out.2 he
                injection h with h1 h2
                rw [decide_eq_true he, h1, h2]; simp
              · rw [decide_eq_false he, Bool.eq_false_iff]
                intro h0
                rw [Bool.and_eq_true, beq_iff_eq, beq_iff_eq] at h0
                exact he (HU.out.1 (by rw [h0.1, h0.2]))
            have HCS : Hid (∀ W, Below w6.heap.size w6 W → Calls Tryz.prog 24 #[.slice A1 n1 c1, .slice A2 n2 c2] W fun e w' => e = .returned (.bool (decide (fa = fb))) ∧ Below W.heap.size W w') := fun W hW => same9B_any A1 A2 n1 c1 n2 c2 W.heap.size fa fb W (sl_on H1.out hW) (sl_on H2.out hW) (by unfold maxLen; omega)
            obtain ⟨rr, hrr⟩ : ∃ rr, decide (fa = fb) = rr := ⟨_, rfl⟩
            rw [hrr] at HCS HEQ
            have hEQ := HEQ.out
            have hr2 : (rr == rr) = true := by simp
            obtain ⟨x0, x1, _, _⟩ := HK.out.two
            obtain ⟨y0, y1, _, _⟩ := HX.out.two
            have zk := HK.out.lt; have zx := HX.out.lt
            clear hrr HEQ hu HU
            go_wp2_with fail
            go_region_held3 (fun w' => w'.cell? ⟨w2.heap.size, 0, none⟩ = some (.int .u64 d1) ∧ w'.cell? ⟨w2.heap.size, 1, none⟩ = some (.int .u64 d2) ∧ w'.cell? ⟨w4.heap.size, 0, none⟩ = some (.int .u64 e1) ∧ w'.cell? ⟨w4.heap.size, 1, none⟩ = some (.int .u64 e2))
              (first | exact ⟨x0, x1, y0, y1⟩ | exact ⟨m0.out, m1.out, m2.out, m3.out⟩ | exact ⟨q0.out, q1.out, q2.out, q3.out⟩)
              (first
                | (go_at_call 24; refine (HCS.out _ ((Below.refl _ _).drew)).mono ?_; rintro e w11 ⟨rfl, hb2⟩
                   have m0 := Lib.hid ((hb2.cell (p := ⟨w2.heap.size, 0, none⟩) (by show w2.heap.size < _; simp; omega)).trans x0); have m1 := Lib.hid ((hb2.cell (p := ⟨w2.heap.size, 1, none⟩) (by show w2.heap.size < _; simp; omega)).trans x1); have m2 := Lib.hid ((hb2.cell (p := ⟨w4.heap.size, 0, none⟩) (by show w4.heap.size < _; simp; omega)).trans y0); have m3 := Lib.hid ((hb2.cell (p := ⟨w4.heap.size, 1, none⟩) (by show w4.heap.size < _; simp; omega)).trans y1)
                   have HB11 : Hid (Below w.heap.size w w11) := HB.out.trans (((Below.refl _ w6).drew.trans hb2).mono HB.out.size)
                   have zk1 : w2.heap.size < w11.heap.size := Nat.lt_of_lt_of_le zk hb2.size; have zx1 : w4.heap.size < w11.heap.size := Nat.lt_of_lt_of_le zx hb2.size
                   clear hb2)
                | (go_at_call 14; refine (HAW.out _).mono ?_; rintro e w12 ⟨rfl, hb3⟩
                   have q0 := Lib.hid ((hb3.cell (p := ⟨w2.heap.size, 0, none⟩) (by show w2.heap.size < _; omega)).trans m0.out); have q1 := Lib.hid ((hb3.cell (p := ⟨w2.heap.size, 1, none⟩) (by show w2.heap.size < _; omega)).trans m1.out); have q2 := Lib.hid ((hb3.cell (p := ⟨w4.heap.size, 0, none⟩) (by show w4.heap.size < _; omega)).trans m2.out); have q3 := Lib.hid ((hb3.cell (p := ⟨w4.heap.size, 1, none⟩) (by show w4.heap.size < _; omega)).trans m3.out)
                   have HB12 : Hid (Below w.heap.size w w12) := HB11.out.trans (hb3.mono HB11.out.size)
                   clear hb3))
            clear x0 x1 y0 y1
            go_wp2_with fail
            go_ret
            exact ⟨rfl, HB12.out⟩
end Go.Proofs.YtmdhlkkekidknaaGreatDoor
