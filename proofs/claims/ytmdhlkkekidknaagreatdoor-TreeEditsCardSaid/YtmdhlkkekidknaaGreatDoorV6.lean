/-
  Lemmas: The program's object.Encode and Check on valid objects. The program's object.Decode on what was written. pool.Get. pool.Put. cordwoodref01.GetInt and GetText.
-/
import Derived.Test.YtmdhlkkekidknaaGreatDoorV5
import Derived.Test.YtmdhlkkekidknaaGreatDoorV4
import Derived.Test.YtmdhlkkekidknaaGreatDoorV2

namespace Go.Proofs.YtmdhlkkekidknaaGreatDoor
open Go.RowKit

theorem take_flat_len {α β : Type} (f : α → List β) (l : List α) (k : Nat) : ((l.take k).flatMap f).length ≤ (l.flatMap f).length := by
  conv => rhs; rw [← List.take_append_drop k l, List.flatMap_append, List.length_append]
  omega
theorem take_flat_snoc {α β : Type} {f : α → List β} {l : List α} {k : Nat} {x : α} (h : l[k]? = some x) : (l.take (k + 1)).flatMap f = (l.take k).flatMap f ++ f x := by
  rw [take_snoc h, List.flatMap_append]; simp
def OecEnd (o : Ob) (w : World) (e : Ending) (w' : World) : Prop := e = .returned (.tuple #[.string (ofL (encO o)), .int .i64 0]) ∧ Below w.heap.size w w'
set_option maxRecDepth 100000 in
set_option maxHeartbeats 8000000 in
theorem oencode_any (o : Ob) (s : Osl) (B : Nat) (w : World) (hm : ObM w B o s) (hB : B ≤ w.heap.size) (ho : OkO o) :
    Calls Tryz.prog 106 #[obV o s] w (OecEnd o w) := by
  obtain ⟨W0, hW0⟩ : ∃ W, w.alloc (.cells (obC o s) 82) = W := ⟨_, rfl⟩
  have HB0 : Hid (Below w.heap.size w W0) := by rw [← hW0]; exact (Below.refl _ w).alloc (Nat.le_refl _) _
  have HK0 : Hid (Bk W0 w.heap.size 82 (obC o s)) := by rw [← hW0]; exact Bk.new w _ _
  have zW0 : W0.heap.size = w.heap.size + 1 := by rw [← hW0]; simp
  have HM := Lib.hid hm
  have HC := Lib.hid (ocheck0_any o s B W0 (hm.below (HB0.out.mono hB) (Nat.le_refl _)) (by omega) ho.f)
  have HLEN := Lib.hid ho.len
  have hel := hm.elen; have hpl := hm.plen
  have HE := Lib.hid hm.e; have HP := Lib.hid hm.p
  cases ho.f with
  | blob k e c d =>
    have HENC : Hid (encO o = encN o.kind.toNat ++ encT (toL o.data)) := by show _ = _; unfold encO encB; rw [if_neg (by omega), if_neg (by omega)]
    obtain ⟨kind, data, ents, ⟨t1, t2⟩, pars, auth, time, msg⟩ := o
    obtain ⟨eA, en, ec, pA, pn, pc⟩ := s
    simp only at k d HENC
    simp only [obV, obC] at hW0 HK0 HC ⊢
    obtain ⟨c0, c1, c2, c3, c4, c5, c6, c7, c8⟩ := HK0.out.nine
    clear hm e c HE HP hel hpl
    rcases k with rfl | rfl
    · have HENC : Hid (encO _ = encN 1 ++ encT (toL data)) := HENC.out
      go_enter Tryz.func106, Tryz.ntmps106
      go_wp2_with fail
      refine HC.out.mono ?_
      rintro e w1 ⟨rfl, hb1⟩
      have hz1 := hb1.size
      have HB1 : Hid (Below w.heap.size W0 w1) := hb1.mono (by omega)
      have HK1 := Lib.hid (HK0.out.below hb1 (by omega))
      have hk1 : w.heap.size < w1.heap.size := by omega
      clear hb1 hW0 c0 c1 c2 c3 c4 c5 c6 c7 c8 HC
      obtain ⟨w2, hw2⟩ : ∃ W2, w1.alloc (.cells #[.slice none 0 0, .bool false] 163) = W2 := ⟨_, rfl⟩
      have hz2 : w1.heap.size + 1 ≤ w2.heap.size := by rw [← hw2]; simp
      have HB2 : Hid (Below w1.heap.size w1 w2) := by rw [← hw2]; exact (Below.refl _ w1).alloc (Nat.le_refl _) _
      have HW2 : Hid (Wrt w2 w1.heap.size (w1.heap.size + 1) []) := ⟨⟨none, 0, by rw [← hw2]; exact Bk.new w1 _ _, Txt.nil _ _ _ _⟩, by omega, by omega⟩
      obtain ⟨c0, c1, c2, c3, c4, c5, c6, c7, c8⟩ := (HK1.out.below HB2.out hk1).nine
      have hlk : (encN 1).length = 1 := by rw [encN_small (by omega)]; rfl
      have HC3 := Lib.hid (wnumber_any w1.heap.size (w1.heap.size + 1) 1 [] w2 HW2.out (by omega) (by simp))
      go_wp2_with (first | (go_at_call 141; refine HC3.out.mono ?_; rintro e w3 ⟨rfl, hw, hb, hz⟩; refine halt_ ?_))
      refine unhalt ?_
      have HW3 : Hid (Wrt w3 w1.heap.size (w1.heap.size + 1) ([] ++ encN 1)) := hw
      have HB3 : Hid (Below w1.heap.size w1 w3) := HB2.out.trans hb
      have hz3 : w1.heap.size + 1 ≤ w3.heap.size := by omega
      clear hw hb hz HC3 c0 c1 c2 c3 c4 c5 c6 c7 c8
      obtain ⟨c0, c1, c2, c3, c4, c5, c6, c7, c8⟩ := (HK1.out.below HB3.out hk1).nine
      have HW3 : Hid (Wrt w3 w1.heap.size (w1.heap.size + 1) (encN 1)) := HW3.out
      clear hw2
      have HC4 := Lib.hid (wstring_any w1.heap.size (w1.heap.size + 1) data (encN 1) w3 HW3.out d (by omega))
      go_wp2_with (first | (go_at_call 142; refine HC4.out.mono ?_; rintro e w4 ⟨rfl, hw, hb, hz⟩; refine halt_ ?_))
      refine unhalt ?_
      have HW4 : Hid (Wrt w4 w1.heap.size (w1.heap.size + 1) (encN 1 ++ encT (toL data))) := hw
      have HB4 : Hid (Below w1.heap.size w1 w4) := HB3.out.trans hb
      have hz4 : w1.heap.size + 1 ≤ w4.heap.size := by omega
      clear hw hb hz HC4 c0 c1 c2 c3 c4 c5 c6 c7 c8
      obtain ⟨c0, c1, c2, c3, c4, c5, c6, c7, c8⟩ := (HK1.out.below HB4.out hk1).nine
      have hend := HW4.out
      obtain ⟨A, cc, hk4, ht4⟩ := hend.ex
      obtain ⟨bs, hbs⟩ : ∃ bs, encN 1 ++ encT (toL data) = bs := ⟨_, rfl⟩
      rw [hbs] at hk4 ht4
      have HBS : Hid (encN 1 ++ encT (toL data) = bs) := hbs
      have hlz : ¬ (65536 : Int) < (bs.length : Int) := by
        have h1 := HLEN.out
        have h2 := congrArg List.length (HENC.out.trans (show _ = encN 1 ++ encT (toL data) by first | rfl | simp only [List.append_assoc]))
        rw [hbs] at h2
        omega
      obtain ⟨d0, d1, _, _⟩ := hk4.two
      have hcv := ht4.run_string (P := Tryz.prog) 161 9 5 Tryz.underlying161 Tryz.underlying5 Tryz.underlying9
      have HEQ := Lib.hid (HENC.out.trans (show _ = encN 1 ++ encT (toL data) by first | rfl | simp only [List.append_assoc]))
      clear hk4 ht4 hbs hend c0 c1 c2 c3 c4 c5 c6 c7 c8
      go_wp2_with fail
      go_ret2
      exact ⟨by rw [HEQ.out, HBS.out]; rfl, HB0.out.trans (HB1.out.trans (HB4.out.mono (by omega)) |>.mono (by omega))⟩
    · have HENC : Hid (encO _ = encN 4 ++ encT (toL data)) := HENC.out
      go_enter Tryz.func106, Tryz.ntmps106
      go_wp2_with fail
      refine HC.out.mono ?_
      rintro e w1 ⟨rfl, hb1⟩
      have hz1 := hb1.size
      have HB1 : Hid (Below w.heap.size W0 w1) := hb1.mono (by omega)
      have HK1 := Lib.hid (HK0.out.below hb1 (by omega))
      have hk1 : w.heap.size < w1.heap.size := by omega
      clear hb1 hW0 c0 c1 c2 c3 c4 c5 c6 c7 c8 HC
      obtain ⟨w2, hw2⟩ : ∃ W2, w1.alloc (.cells #[.slice none 0 0, .bool false] 163) = W2 := ⟨_, rfl⟩
      have hz2 : w1.heap.size + 1 ≤ w2.heap.size := by rw [← hw2]; simp
      have HB2 : Hid (Below w1.heap.size w1 w2) := by rw [← hw2]; exact (Below.refl _ w1).alloc (Nat.le_refl _) _
      have HW2 : Hid (Wrt w2 w1.heap.size (w1.heap.size + 1) []) := ⟨⟨none, 0, by rw [← hw2]; exact Bk.new w1 _ _, Txt.nil _ _ _ _⟩, by omega, by omega⟩
      obtain ⟨c0, c1, c2, c3, c4, c5, c6, c7, c8⟩ := (HK1.out.below HB2.out hk1).nine
      have hlk : (encN 4).length = 1 := by rw [encN_small (by omega)]; rfl
      have HC3 := Lib.hid (wnumber_any w1.heap.size (w1.heap.size + 1) 4 [] w2 HW2.out (by omega) (by simp))
      go_wp2_with (first | (go_at_call 141; refine HC3.out.mono ?_; rintro e w3 ⟨rfl, hw, hb, hz⟩; refine halt_ ?_))
      refine unhalt ?_
      have HW3 : Hid (Wrt w3 w1.heap.size (w1.heap.size + 1) ([] ++ encN 4)) := hw
      have HB3 : Hid (Below w1.heap.size w1 w3) := HB2.out.trans hb
      have hz3 : w1.heap.size + 1 ≤ w3.heap.size := by omega
      clear hw hb hz HC3 c0 c1 c2 c3 c4 c5 c6 c7 c8
      obtain ⟨c0, c1, c2, c3, c4, c5, c6, c7, c8⟩ := (HK1.out.below HB3.out hk1).nine
      have HW3 : Hid (Wrt w3 w1.heap.size (w1.heap.size + 1) (encN 4)) := HW3.out
      clear hw2
      have HC4 := Lib.hid (wstring_any w1.heap.size (w1.heap.size + 1) data (encN 4) w3 HW3.out d (by omega))
      go_wp2_with (first | (go_at_call 142; refine HC4.out.mono ?_; rintro e w4 ⟨rfl, hw, hb, hz⟩; refine halt_ ?_))
      refine unhalt ?_
      have HW4 : Hid (Wrt w4 w1.heap.size (w1.heap.size + 1) (encN 4 ++ encT (toL data))) := hw
      have HB4 : Hid (Below w1.heap.size w1 w4) := HB3.out.trans hb
      have hz4 : w1.heap.size + 1 ≤ w4.heap.size := by omega
      clear hw hb hz HC4 c0 c1 c2 c3 c4 c5 c6 c7 c8
      obtain ⟨c0, c1, c2, c3, c4, c5, c6, c7, c8⟩ := (HK1.out.below HB4.out hk1).nine
      have hend := HW4.out
      obtain ⟨A, cc, hk4, ht4⟩ := hend.ex
      obtain ⟨bs, hbs⟩ : ∃ bs, encN 4 ++ encT (toL data) = bs := ⟨_, rfl⟩
      rw [hbs] at hk4 ht4
      have HBS : Hid (encN 4 ++ encT (toL data) = bs) := hbs
      have hlz : ¬ (65536 : Int) < (bs.length : Int) := by
        have h1 := HLEN.out
        have h2 := congrArg List.length (HENC.out.trans (show _ = encN 4 ++ encT (toL data) by first | rfl | simp only [List.append_assoc]))
        rw [hbs] at h2
        omega
      obtain ⟨d0, d1, _, _⟩ := hk4.two
      have hcv := ht4.run_string (P := Tryz.prog) 161 9 5 Tryz.underlying161 Tryz.underlying5 Tryz.underlying9
      have HEQ := Lib.hid (HENC.out.trans (show _ = encN 4 ++ encT (toL data) by first | rfl | simp only [List.append_assoc]))
      clear hk4 ht4 hbs hend c0 c1 c2 c3 c4 c5 c6 c7 c8
      go_wp2_with fail
      go_ret2
      exact ⟨by rw [HEQ.out, HBS.out]; rfl, HB0.out.trans (HB1.out.trans (HB4.out.mono (by omega)) |>.mono (by omega))⟩
  | tree k d c e =>
    have HENC : Hid (encO o = encN 2 ++ (encN o.ents.length ++ o.ents.flatMap encE)) := by show _ = _; unfold encO encB; rw [if_pos k, k]; rfl
    obtain ⟨kind, data, ents, ⟨t1, t2⟩, pars, auth, time, msg⟩ := o
    obtain ⟨eA, n, ec, pA, pn, pc⟩ := s
    simp only at k d HENC hel HE
    subst k d
    simp only [obV, obC] at hW0 HK0 HC ⊢
    have hn : n ≤ 200 := by rw [← hel]; exact e.few
    have HOE := Lib.hid e.all
    have HEL := Lib.hid hel
    rw [hel] at HENC
    obtain ⟨c0, c1, c2, c3, c4, c5, c6, c7, c8⟩ := HK0.out.nine
    clear hm e c HP hpl hel
    go_enter Tryz.func106, Tryz.ntmps106
    go_wp2_with fail
    refine HC.out.mono ?_
    rintro e w1 ⟨rfl, hb1⟩
    have hz1 := hb1.size
    have HB1 : Hid (Below w.heap.size W0 w1) := hb1.mono (by omega)
    have HK1 := Lib.hid (HK0.out.below hb1 (by omega))
    have hk1 : w.heap.size < w1.heap.size := by omega
    clear hb1 hW0 c0 c1 c2 c3 c4 c5 c6 c7 c8 HC
    obtain ⟨w2, hw2⟩ : ∃ W2, w1.alloc (.cells #[.slice none 0 0, .bool false] 163) = W2 := ⟨_, rfl⟩
    have hz2 : w1.heap.size + 1 ≤ w2.heap.size := by rw [← hw2]; simp
    have HB2 : Hid (Below w1.heap.size w1 w2) := by rw [← hw2]; exact (Below.refl _ w1).alloc (Nat.le_refl _) _
    have HW2 : Hid (Wrt w2 w1.heap.size (w1.heap.size + 1) []) := ⟨⟨none, 0, by rw [← hw2]; exact Bk.new w1 _ _, Txt.nil _ _ _ _⟩, by omega, by omega⟩
    obtain ⟨c0, c1, c2, c3, c4, c5, c6, c7, c8⟩ := (HK1.out.below HB2.out hk1).nine
    have hlk : (encN 2).length = 1 := by rw [encN_small (by omega)]; rfl
    have HC3 := Lib.hid (wnumber_any w1.heap.size (w1.heap.size + 1) 2 [] w2 HW2.out (by omega) (by simp))
    go_wp2_with (first | (go_at_call 141; refine HC3.out.mono ?_; rintro e w3 ⟨rfl, hw, hb, hz⟩; refine halt_ ?_))
    refine unhalt ?_
    have HW3 : Hid (Wrt w3 w1.heap.size (w1.heap.size + 1) ([] ++ encN 2)) := hw
    have HB3 : Hid (Below w1.heap.size w1 w3) := HB2.out.trans hb
    have hz3 : w1.heap.size + 1 ≤ w3.heap.size := by omega
    clear hw hb hz HC3 c0 c1 c2 c3 c4 c5 c6 c7 c8
    obtain ⟨c0, c1, c2, c3, c4, c5, c6, c7, c8⟩ := (HK1.out.below HB3.out hk1).nine
    have HW3 : Hid (Wrt w3 w1.heap.size (w1.heap.size + 1) (encN 2)) := HW3.out
    clear hw2
    have HC4 := Lib.hid (wnumber_any w1.heap.size (w1.heap.size + 1) n (encN 2) w3 HW3.out (by omega) (by omega))
    go_wp2_with (first | (go_at_call 141; refine HC4.out.mono ?_; rintro e w4 ⟨rfl, hw, hb, hz⟩; refine halt_ ?_))
    refine unhalt ?_
    have HW4 : Hid (Wrt w4 w1.heap.size (w1.heap.size + 1) (encN 2 ++ encN n)) := hw
    have HB4 : Hid (Below w1.heap.size w1 w4) := HB3.out.trans hb
    have hz4 : w1.heap.size + 1 ≤ w4.heap.size := by omega
    clear hw hb hz HC4 c0 c1 c2 c3 c4 c5 c6 c7 c8
    obtain ⟨c0, c1, c2, c3, c4, c5, c6, c7, c8⟩ := (HK1.out.below HB4.out hk1).nine
    have HPRE : Hid (∀ k, (encN 2 ++ encN n ++ (ents.take k).flatMap encE).length ≤ 65536) := fun k => by
      have h := HLEN.out
      rw [HENC.out] at h
      have := take_flat_len encE ents k
      simp only [List.length_append] at h ⊢
      omega
    have HW4 : Hid (Wrt w4 w1.heap.size (w1.heap.size + 1) (encN 2 ++ encN n ++ (ents.take 0).flatMap encE)) := by show Wrt _ _ _ _; rw [List.take_zero, List.flatMap_nil, List.append_nil]; exact HW4.out
    go_wp2_with fail
    go_loopw [39] (fun i wr => ∃ k : Nat, i = .int .i64 (k : Int) ∧ k ≤ n ∧ Hid (Wrt wr w1.heap.size (w1.heap.size + 1) (encN 2 ++ encN n ++ (ents.take k).flatMap encE)) ∧ Hid (Below w1.heap.size w1 wr) ∧ w1.heap.size + 1 ≤ wr.heap.size) (fun i _ => n - (intOf i).toNat)
    case atStart => exact ⟨0, rfl, Nat.zero_le _, HW4.out, HB4.out, hz4⟩
    case round =>
      obtain ⟨k, rfl, hk, hT, hB', hzr⟩ := hrel
      have HBT := hB'
      have HBW : Hid (Below w.heap.size w wr) := HB0.out.trans ((HB1.out.trans (hB'.out.mono (by omega))))
      clear c0 c1 c2 c3 c4 c5 c6 c7 c8
      obtain ⟨c0, c1, c2, c3, c4, c5, c6, c7, c8⟩ := (HK1.out.below hB'.out hk1).nine
      by_cases hlt : k < n
      · have hlz : (k : Int) < (n : Int) := by omega
        obtain ⟨bb, off, en, rfl, hbB, hen, y0, y1, y2, y3⟩ := (HE.out.below HBW.out hB).en hlt
        have HEN := Lib.hid hen
        have hoe := HOE.out en (List.mem_of_getElem? hen)
        have hns := nameB_size hoe.nm
        have HWD := Lib.hid hoe.dg
        have hp1 := HPRE.out k
        have HEX : Hid ((ents.take (k + 1)).flatMap encE = (ents.take k).flatMap encE ++ encE en) := take_flat_snoc hen
        obtain ⟨wb, hwb⟩ : ∃ wb, wr.alloc (.cells #[.string en.nm, .bool en.dir, .int .u64 en.dg.1, .int .u64 en.dg.2] 102) = wb := ⟨_, rfl⟩
        have hbb : Below wr.heap.size wr wb := by rw [← hwb]; exact (Below.refl _ wr).alloc (Nat.le_refl _) _
        have zwb : wb.heap.size = wr.heap.size + 1 := by rw [← hwb]; simp
        have HKb : Hid (Bk wb wr.heap.size 102 #[.string en.nm, .bool en.dir, .int .u64 en.dg.1, .int .u64 en.dg.2]) := by rw [← hwb]; exact Bk.new wr _ _
        have HWb := Lib.hid (hT.out.wrx hbb (by omega))
        have HBb : Hid (Below w1.heap.size w1 wb) := HBT.out.trans (hbb.mono (by omega))
        obtain ⟨x0, x1, x2, x3⟩ := HKb.out.four
        obtain ⟨nm, dir, d1, d2⟩ := en
        simp only at y0 y1 y2 y3 x0 x1 x2 x3 hwb hns HKb HEX HWD
        have hle : (encT (toL nm)).length ≤ 70 := by
          have h1 := encN_len 5 nm.size (by omega)
          have h2 := size_toL nm
          unfold encT; rw [List.length_append, ← h2]; omega
        have HC5 := Lib.hid (wstringX w1.heap.size (w1.heap.size + 1) wr.heap.size nm (encN 2 ++ encN n ++ (ents.take k).flatMap encE) wb HWb.out (by omega) (by omega))
        clear hbb hen hoe
        go_wp2_with (first | (go_at_call 142; refine HC5.out.mono ?_; rintro e w5 ⟨rfl, hw, hb, hz, hx⟩; refine halt_ ?_))
        refine unhalt ?_
        have HW5 := Lib.hid hw
        have HB5 : Hid (Below w1.heap.size w1 w5) := HBb.out.trans hb
        have HK5 : Hid (Bk w5 wr.heap.size 102 #[.string nm, .bool dir, .int .u64 d1, .int .u64 d2]) := hx.trans HKb.out
        have hz5 : wr.heap.size < w5.heap.size := by omega
        clear hw hb hz hx HC5 x0 x1 x2 x3 y0 y1 y2 y3 hwb c0 c1 c2 c3 c4 c5 c6 c7 c8
        obtain ⟨x0, x1, x2, x3⟩ := HK5.out.four
        obtain ⟨dn, hdn⟩ : ∃ dn : Nat, (if dir = true then 1 else 0 : Nat) = dn := ⟨_, rfl⟩
        have hdn1 : dn ≤ 1 := by rw [← hdn]; split <;> omega
        have HDN := Lib.hid hdn
        have hl5 : (encN 2 ++ encN n ++ (ents.take k).flatMap encE ++ encT (toL nm)).length ≤ 70000 := by rw [List.length_append]; omega
        have hl6 : (encN dn).length = 1 := by rw [encN_small (by omega)]; rfl
        have HC6 := Lib.hid (wnumberX w1.heap.size (w1.heap.size + 1) wr.heap.size dn (encN 2 ++ encN n ++ (ents.take k).flatMap encE ++ encT (toL nm)) w5 HW5.out (by omega) (by omega))
        go_upto_if 47 with fail
        go_cut [8] from 47 to 47 (fun q wx => q = .int .i64 (dn : Int) ∧ wx = w5)
        case first =>
          cases dir with
          | true =>
            obtain rfl : 1 = dn := by simpa using hdn
            go_wp2_with fail
            go_meet
            exact ⟨rfl, rfl⟩
          | false =>
            obtain rfl : 0 = dn := by simpa using hdn
            go_wp2_with fail
            go_meet
            exact ⟨rfl, rfl⟩
        case rest =>
          obtain ⟨rfl, rfl⟩ := hcut
          go_wp2_with (first | (go_at_call 141; refine HC6.out.mono ?_; rintro e w6 ⟨rfl, hw, hb, hz, hx⟩; refine halt_ ?_))
          refine unhalt ?_
          have HW6 := Lib.hid hw
          have HB6 : Hid (Below w1.heap.size w1 w6) := HB5.out.trans hb
          have HK6 : Hid (Bk w6 wr.heap.size 102 #[.string nm, .bool dir, .int .u64 d1, .int .u64 d2]) := hx.trans HK5.out
          have hz6 : wr.heap.size < w6.heap.size := by omega
          clear hw hb hz hx HC6 x0 x1 x2 x3
          obtain ⟨x0, x1, x2, x3⟩ := HK6.out.four
          have HC7 := Lib.hid (wdigestX w1.heap.size (w1.heap.size + 1) wr.heap.size (d1, d2) HWD.out (encN 2 ++ encN n ++ (ents.take k).flatMap encE ++ encT (toL nm) ++ encN dn) w6 HW6.out (by rw [List.length_append]; omega))
          unfold digV at HC7
          go_wp2_with (first | (go_at_call 143; refine HC7.out.mono ?_; rintro e w7 ⟨rfl, hw, hb, hz, hx⟩; refine halt_ ?_))
          refine unhalt ?_
          have HB7 : Hid (Below w1.heap.size w1 w7) := HB6.out.trans hb
          have hz7 : w1.heap.size + 1 ≤ w7.heap.size := by omega
          have HW7 : Hid (Wrt w7 w1.heap.size (w1.heap.size + 1) (encN 2 ++ encN n ++ (ents.take (k + 1)).flatMap encE)) := by
            have h := hw.wrt
            show Wrt _ _ _ _
            have he : encE ⟨nm, dir, (d1, d2)⟩ = encT (toL nm) ++ (encN dn ++ digB (d1, d2)) := by rw [← HDN.out]; rfl
            rw [HEX.out, he]
            simpa only [List.append_assoc] using h
          clear hw hb hz hx HC7 x0 x1 x2 x3
          go_wp2_with fail
          go_roundw
          case rel => exact ⟨k + 1, by go_num, hlt, HW7.out, HB7.out, hz7⟩
          case measure => simp [intOf]; omega
      · have hlz : ¬ (k : Int) < (n : Int) := by omega
        have HW9 : Hid (Wrt wr w1.heap.size (w1.heap.size + 1) (encN 2 ++ encN n ++ ents.flatMap encE)) := by
          have := hT.out; rw [List.take_of_length_le (by rw [HEL.out]; omega)] at this; exact this
        have HB9 := hB'
        have hend := HW9.out
        obtain ⟨A, cc, hk4, ht4⟩ := hend.ex
        obtain ⟨bs, hbs⟩ : ∃ bs, encN 2 ++ encN n ++ ents.flatMap encE = bs := ⟨_, rfl⟩
        rw [hbs] at hk4 ht4
        have HBS : Hid (encN 2 ++ encN n ++ ents.flatMap encE = bs) := hbs
        have hlz : ¬ (65536 : Int) < (bs.length : Int) := by
          have h1 := HLEN.out
          have h2 := congrArg List.length (HENC.out.trans (show _ = encN 2 ++ encN n ++ ents.flatMap encE by first | rfl | simp only [List.append_assoc]))
          rw [hbs] at h2
          omega
        obtain ⟨d0, d1, _, _⟩ := hk4.two
        have hcv := ht4.run_string (P := Tryz.prog) 161 9 5 Tryz.underlying161 Tryz.underlying5 Tryz.underlying9
        have HEQ := Lib.hid (HENC.out.trans (show _ = encN 2 ++ encN n ++ ents.flatMap encE by first | rfl | simp only [List.append_assoc]))
        clear hk4 ht4 hbs hend c0 c1 c2 c3 c4 c5 c6 c7 c8
        go_wp2_with fail
        go_ret2
        exact ⟨by rw [HEQ.out, HBS.out]; rfl, HB0.out.trans (HB1.out.trans (HB9.out.mono (by omega)) |>.mono (by omega))⟩
  | commit k d e c =>
    have HENC : Hid (encO o = encN 3 ++ (digB o.tree ++ (encN o.pars.length ++ (o.pars.flatMap digB ++ (encT (toL o.auth) ++ (encN o.time.toNat ++ encT (toL o.msg))))))) := by show _ = _; unfold encO encB; rw [if_neg (by omega), if_pos k, k]; rfl
    obtain ⟨kind, data, ents, ⟨t1, t2⟩, pars, auth, time, msg⟩ := o
    obtain ⟨eA, en, ec, pA, n, pc⟩ := s
    simp only at k d HENC hpl HP
    subst k d
    simp only [obV, obC] at hW0 HK0 HC ⊢
    have hn : n ≤ 8 := by rw [← hpl]; exact c.pars.few
    have hwt : WfD (t1, t2) := c.wf
    have HOP := Lib.hid c.pars.wf
    have HPL := Lib.hid hpl
    have hau : auth.size ≤ 24 := nameB_size c.auth
    have hmg : msg.size ≤ 200 := c.msg
    have ht0 : 0 ≤ time := c.t0
    have ht1 : time ≤ 1099511627776 := c.t1
    obtain ⟨tn, rfl⟩ := Int.eq_ofNat_of_zero_le ht0
    have htn : tn ≤ 1099511627776 := by omega
    simp only [Int.toNat_natCast] at HENC
    rw [hpl] at HENC
    obtain ⟨c0, c1, c2, c3, c4, c5, c6, c7, c8⟩ := HK0.out.nine
    clear hm e c HE hel hpl ht0 ht1
    go_enter Tryz.func106, Tryz.ntmps106
    go_wp2_with fail
    refine HC.out.mono ?_
    rintro e w1 ⟨rfl, hb1⟩
    have hz1 := hb1.size
    have HB1 : Hid (Below w.heap.size W0 w1) := hb1.mono (by omega)
    have HK1 := Lib.hid (HK0.out.below hb1 (by omega))
    have hk1 : w.heap.size < w1.heap.size := by omega
    clear hb1 hW0 c0 c1 c2 c3 c4 c5 c6 c7 c8 HC
    obtain ⟨w2, hw2⟩ : ∃ W2, w1.alloc (.cells #[.slice none 0 0, .bool false] 163) = W2 := ⟨_, rfl⟩
    have hz2 : w1.heap.size + 1 ≤ w2.heap.size := by rw [← hw2]; simp
    have HB2 : Hid (Below w1.heap.size w1 w2) := by rw [← hw2]; exact (Below.refl _ w1).alloc (Nat.le_refl _) _
    have HW2 : Hid (Wrt w2 w1.heap.size (w1.heap.size + 1) []) := ⟨⟨none, 0, by rw [← hw2]; exact Bk.new w1 _ _, Txt.nil _ _ _ _⟩, by omega, by omega⟩
    obtain ⟨c0, c1, c2, c3, c4, c5, c6, c7, c8⟩ := (HK1.out.below HB2.out hk1).nine
    have hlk : (encN 3).length = 1 := by rw [encN_small (by omega)]; rfl
    have HC3 := Lib.hid (wnumber_any w1.heap.size (w1.heap.size + 1) 3 [] w2 HW2.out (by omega) (by simp))
    go_wp2_with (first | (go_at_call 141; refine HC3.out.mono ?_; rintro e w3 ⟨rfl, hw, hb, hz⟩; refine halt_ ?_))
    refine unhalt ?_
    have HW3 : Hid (Wrt w3 w1.heap.size (w1.heap.size + 1) ([] ++ encN 3)) := hw
    have HB3 : Hid (Below w1.heap.size w1 w3) := HB2.out.trans hb
    have hz3 : w1.heap.size + 1 ≤ w3.heap.size := by omega
    clear hw hb hz HC3 c0 c1 c2 c3 c4 c5 c6 c7 c8
    obtain ⟨c0, c1, c2, c3, c4, c5, c6, c7, c8⟩ := (HK1.out.below HB3.out hk1).nine
    have HW3 : Hid (Wrt w3 w1.heap.size (w1.heap.size + 1) (encN 3)) := HW3.out
    clear hw2
    have HLA : Hid (∀ q : Bytes, (∃ r, encN 3 ++ (digB (t1, t2) ++ (encN n ++ (pars.flatMap digB ++ (encT (toL auth) ++ (encN tn ++ encT (toL msg)))))) = q ++ r) → q.length ≤ 65536) := fun q hq => by
      obtain ⟨r, hr⟩ := hq
      have h := HLEN.out
      rw [HENC.out, hr, List.length_append] at h
      omega
    have HC4 := Lib.hid (wdigest_any w1.heap.size (w1.heap.size + 1) (t1, t2) hwt (encN 3) w3 HW3.out (by omega))
    unfold digV at HC4
    go_wp2_with (first | (go_at_call 143; refine HC4.out.mono ?_; rintro e w4 ⟨rfl, hw, hb, hz⟩; refine halt_ ?_))
    refine unhalt ?_
    have HW4 : Hid (Wrt w4 w1.heap.size (w1.heap.size + 1) (encN 3 ++ digB (t1, t2))) := hw
    have HB4 : Hid (Below w1.heap.size w1 w4) := HB3.out.trans hb
    have hz4 : w1.heap.size + 1 ≤ w4.heap.size := by omega
    clear hw hb hz HC4 c0 c1 c2 c3 c4 c5 c6 c7 c8
    obtain ⟨c0, c1, c2, c3, c4, c5, c6, c7, c8⟩ := (HK1.out.below HB4.out hk1).nine
    have HC5 := Lib.hid (wnumber_any w1.heap.size (w1.heap.size + 1) n (encN 3 ++ digB (t1, t2)) w4 HW4.out (by omega) (by rw [List.length_append, digB_len]; omega))
    go_wp2_with (first | (go_at_call 141; refine HC5.out.mono ?_; rintro e w5 ⟨rfl, hw, hb, hz⟩; refine halt_ ?_))
    refine unhalt ?_
    have HW5 : Hid (Wrt w5 w1.heap.size (w1.heap.size + 1) (encN 3 ++ digB (t1, t2) ++ encN n)) := hw
    have HB5 : Hid (Below w1.heap.size w1 w5) := HB4.out.trans hb
    have hz5 : w1.heap.size + 1 ≤ w5.heap.size := by omega
    clear hw hb hz HC5 c0 c1 c2 c3 c4 c5 c6 c7 c8
    obtain ⟨c0, c1, c2, c3, c4, c5, c6, c7, c8⟩ := (HK1.out.below HB5.out hk1).nine
    have hln : (encN n).length = 1 := by rw [encN_small (by omega)]; rfl
    have HW5 : Hid (Wrt w5 w1.heap.size (w1.heap.size + 1) (encN 3 ++ digB (t1, t2) ++ encN n ++ (pars.take 0).flatMap digB)) := by show Wrt _ _ _ _; rw [List.take_zero, List.flatMap_nil, List.append_nil]; exact HW5.out
    have HPRE : Hid (∀ k, k ≤ n → (encN 3 ++ digB (t1, t2) ++ encN n ++ (pars.take k).flatMap digB).length ≤ 65536) := fun k hk => by
      refine HLA.out _ ⟨(pars.drop k).flatMap digB ++ (encT (toL auth) ++ (encN tn ++ encT (toL msg))), ?_⟩
      conv => lhs; rw [← List.take_append_drop k pars, List.flatMap_append]
      simp only [List.append_assoc]
    go_wp2_with fail
    go_loopw [64] (fun i wr => ∃ k : Nat, i = .int .i64 (k : Int) ∧ k ≤ n ∧ Hid (Wrt wr w1.heap.size (w1.heap.size + 1) (encN 3 ++ digB (t1, t2) ++ encN n ++ (pars.take k).flatMap digB)) ∧ Hid (Below w1.heap.size w1 wr) ∧ w1.heap.size + 1 ≤ wr.heap.size) (fun i _ => n - (intOf i).toNat)
    case atStart => exact ⟨0, rfl, Nat.zero_le _, HW5.out, HB5.out, hz5⟩
    case round =>
      obtain ⟨k, rfl, hk, hT, hB', hzr⟩ := hrel
      have HBW : Hid (Below w.heap.size w wr) := HB0.out.trans ((HB1.out.trans (hB'.out.mono (by omega))))
      clear c0 c1 c2 c3 c4 c5 c6 c7 c8
      obtain ⟨c0, c1, c2, c3, c4, c5, c6, c7, c8⟩ := (HK1.out.below hB'.out hk1).nine
      by_cases hlt : k < n
      · have hlz : (k : Int) < (n : Int) := by omega
        obtain ⟨bb, off, d, rfl, hbB, hd, y0, y1⟩ := (HP.out.below HBW.out hB).dg hlt
        have HWD := Lib.hid (HOP.out d (List.mem_of_getElem? hd))
        have hp1 := HPRE.out k hk
        have HEX : Hid ((pars.take (k + 1)).flatMap digB = (pars.take k).flatMap digB ++ digB d) := take_flat_snoc hd
        obtain ⟨d1, d2⟩ := d
        simp only at y0 y1
        obtain ⟨wb, hwb⟩ : ∃ wb, wr.alloc (.cells #[.int .u64 d1, .int .u64 d2] 30) = wb := ⟨_, rfl⟩
        have hbb : Below wr.heap.size wr wb := by rw [← hwb]; exact (Below.refl _ wr).alloc (Nat.le_refl _) _
        have hzb : w1.heap.size + 1 ≤ wb.heap.size := by have := hbb.size; omega
        have HKb : Hid (Bk wb wr.heap.size 30 #[.int .u64 d1, .int .u64 d2]) := by rw [← hwb]; exact Bk.new wr _ _
        have HWb := Lib.hid (hT.out.below hbb)
        have HBb : Hid (Below w1.heap.size w1 wb) := hB'.out.trans (hbb.mono (by omega))
        obtain ⟨x0, x1, _, _⟩ := HKb.out.two
        have HC6 := Lib.hid (wdigest_any w1.heap.size (w1.heap.size + 1) (d1, d2) HWD.out (encN 3 ++ digB (t1, t2) ++ encN n ++ (pars.take k).flatMap digB) wb HWb.out (by omega))
        unfold digV at HC6
        clear hbb hd
        go_wp2_with (first | (go_at_call 143; refine HC6.out.mono ?_; rintro e w6 ⟨rfl, hw, hb, hz⟩; refine halt_ ?_))
        refine unhalt ?_
        have HB6 : Hid (Below w1.heap.size w1 w6) := HBb.out.trans hb
        have hz6 : w1.heap.size + 1 ≤ w6.heap.size := by omega
        have HW6 : Hid (Wrt w6 w1.heap.size (w1.heap.size + 1) (encN 3 ++ digB (t1, t2) ++ encN n ++ (pars.take (k + 1)).flatMap digB)) := by
          show Wrt _ _ _ _; rw [HEX.out, ← List.append_assoc]; exact hw
        clear hw hb hz HC6 x0 x1 hwb y0 y1
        go_wp2_with fail
        go_roundw
        case rel => exact ⟨k + 1, by go_num, hlt, HW6.out, HB6.out, hz6⟩
        case measure => simp [intOf]; omega
      · have hlz : ¬ (k : Int) < (n : Int) := by omega
        have HW6 : Hid (Wrt wr w1.heap.size (w1.heap.size + 1) (encN 3 ++ digB (t1, t2) ++ encN n ++ pars.flatMap digB)) := by
          have := hT.out; rw [List.take_of_length_le (by rw [HPL.out]; omega)] at this; exact this
        obtain ⟨w6, hw6⟩ : ∃ W, W = wr := ⟨_, rfl⟩
        subst hw6
        have HB6 := hB'
        have hz6 := hzr
        have HC7 := Lib.hid (wstring_any w1.heap.size (w1.heap.size + 1) auth (encN 3 ++ digB (t1, t2) ++ encN n ++ pars.flatMap digB) w6 HW6.out (by omega) (by have := HLA.out (encN 3 ++ digB (t1, t2) ++ encN n ++ pars.flatMap digB) ⟨encT (toL auth) ++ (encN tn ++ encT (toL msg)), by simp only [List.append_assoc]⟩; omega))
        go_wp2_with (first | (go_at_call 142; refine HC7.out.mono ?_; rintro e w7 ⟨rfl, hw, hb, hz⟩; refine halt_ ?_))
        refine unhalt ?_
        have HW7 : Hid (Wrt w7 w1.heap.size (w1.heap.size + 1) (encN 3 ++ digB (t1, t2) ++ encN n ++ pars.flatMap digB ++ encT (toL auth))) := hw
        have HB7 : Hid (Below w1.heap.size w1 w7) := HB6.out.trans hb
        have hz7 : w1.heap.size + 1 ≤ w7.heap.size := by omega
        clear hw hb hz HC7 c0 c1 c2 c3 c4 c5 c6 c7 c8
        obtain ⟨c0, c1, c2, c3, c4, c5, c6, c7, c8⟩ := (HK1.out.below HB7.out hk1).nine
        have HC8 := Lib.hid (wnumber_any w1.heap.size (w1.heap.size + 1) tn (encN 3 ++ digB (t1, t2) ++ encN n ++ pars.flatMap digB ++ encT (toL auth)) w7 HW7.out htn (by have := HLA.out (encN 3 ++ digB (t1, t2) ++ encN n ++ pars.flatMap digB ++ encT (toL auth)) ⟨encN tn ++ encT (toL msg), by simp only [List.append_assoc]⟩; omega))
        go_wp2_with (first | (go_at_call 141; refine HC8.out.mono ?_; rintro e w8 ⟨rfl, hw, hb, hz⟩; refine halt_ ?_))
        refine unhalt ?_
        have HW8 : Hid (Wrt w8 w1.heap.size (w1.heap.size + 1) (encN 3 ++ digB (t1, t2) ++ encN n ++ pars.flatMap digB ++ encT (toL auth) ++ encN tn)) := hw
        have HB8 : Hid (Below w1.heap.size w1 w8) := HB7.out.trans hb
        have hz8 : w1.heap.size + 1 ≤ w8.heap.size := by omega
        clear hw hb hz HC8 c0 c1 c2 c3 c4 c5 c6 c7 c8
        obtain ⟨c0, c1, c2, c3, c4, c5, c6, c7, c8⟩ := (HK1.out.below HB8.out hk1).nine
        have HC9 := Lib.hid (wstring_any w1.heap.size (w1.heap.size + 1) msg (encN 3 ++ digB (t1, t2) ++ encN n ++ pars.flatMap digB ++ encT (toL auth) ++ encN tn) w8 HW8.out (by omega) (by have := HLA.out (encN 3 ++ digB (t1, t2) ++ encN n ++ pars.flatMap digB ++ encT (toL auth) ++ encN tn) ⟨encT (toL msg), by simp only [List.append_assoc]⟩; omega))
        go_wp2_with (first | (go_at_call 142; refine HC9.out.mono ?_; rintro e w9 ⟨rfl, hw, hb, hz⟩; refine halt_ ?_))
        refine unhalt ?_
        have HW9 : Hid (Wrt w9 w1.heap.size (w1.heap.size + 1) (encN 3 ++ digB (t1, t2) ++ encN n ++ pars.flatMap digB ++ encT (toL auth) ++ encN tn ++ encT (toL msg))) := hw
        have HB9 : Hid (Below w1.heap.size w1 w9) := HB8.out.trans hb
        have hz9 : w1.heap.size + 1 ≤ w9.heap.size := by omega
        clear hw hb hz HC9 c0 c1 c2 c3 c4 c5 c6 c7 c8
        obtain ⟨c0, c1, c2, c3, c4, c5, c6, c7, c8⟩ := (HK1.out.below HB9.out hk1).nine
        have hend := HW9.out
        obtain ⟨A, cc, hk4, ht4⟩ := hend.ex
        obtain ⟨bs, hbs⟩ : ∃ bs, encN 3 ++ digB (t1, t2) ++ encN n ++ pars.flatMap digB ++ encT (toL auth) ++ encN tn ++ encT (toL msg) = bs := ⟨_, rfl⟩
        rw [hbs] at hk4 ht4
        have HBS : Hid (encN 3 ++ digB (t1, t2) ++ encN n ++ pars.flatMap digB ++ encT (toL auth) ++ encN tn ++ encT (toL msg) = bs) := hbs
        have hlz : ¬ (65536 : Int) < (bs.length : Int) := by
          have h1 := HLEN.out
          have h2 := congrArg List.length (HENC.out.trans (show _ = encN 3 ++ digB (t1, t2) ++ encN n ++ pars.flatMap digB ++ encT (toL auth) ++ encN tn ++ encT (toL msg) by first | rfl | simp only [List.append_assoc]))
          rw [hbs] at h2
          omega
        obtain ⟨d0, d1, _, _⟩ := hk4.two
        have hcv := ht4.run_string (P := Tryz.prog) 161 9 5 Tryz.underlying161 Tryz.underlying5 Tryz.underlying9
        have HEQ := Lib.hid (HENC.out.trans (show _ = encN 3 ++ digB (t1, t2) ++ encN n ++ pars.flatMap digB ++ encT (toL auth) ++ encN tn ++ encT (toL msg) by first | rfl | simp only [List.append_assoc]))
        clear hk4 ht4 hbs hend c0 c1 c2 c3 c4 c5 c6 c7 c8
        go_wp2_with fail
        go_ret2
        exact ⟨by rw [HEQ.out, HBS.out]; rfl, HB0.out.trans (HB1.out.trans (HB9.out.mono (by omega)) |>.mono (by omega))⟩
set_option maxHeartbeats 1000000 in
theorem ochk_any (o : Ob) (s : Osl) (B : Nat) (w : World) (hm : ObM w B o s) (hB : B ≤ w.heap.size) (ho : OkO o) :
    Calls Tryz.prog 55 #[obV o s] w fun e w' => e = .returned (.int .i64 0) ∧ Below w.heap.size w w' := by
  obtain ⟨W0, hW0⟩ : ∃ W, w.alloc (.cells (obC o s) 82) = W := ⟨_, rfl⟩
  have HB0 : Hid (Below w.heap.size w W0) := by rw [← hW0]; exact (Below.refl _ w).alloc (Nat.le_refl _) _
  have HK0 : Hid (Bk W0 w.heap.size 82 (obC o s)) := by rw [← hW0]; exact Bk.new w _ _
  have HC := Lib.hid (oencode_any o s B W0 (hm.below (HB0.out.mono hB) (Nat.le_refl _)) (by have := HB0.out.size; omega) ho)
  obtain ⟨bs, hbs⟩ : ∃ bs, ofL (encO o) = bs := ⟨_, rfl⟩
  unfold OecEnd at HC
  rw [hbs] at HC
  obtain ⟨kind, data, ents, ⟨t1, t2⟩, pars, auth, time, msg⟩ := o
  obtain ⟨eA, en, ec, pA, pn, pc⟩ := s
  simp only [obV, obC] at hW0 HK0 HC ⊢
  obtain ⟨c0, c1, c2, c3, c4, c5, c6, c7, c8⟩ := HK0.out.nine
  clear hm hbs
  go_enter Tryz.func55, Tryz.ntmps55
  go_wp2_with (first | (go_at_call 106; refine HC.out.mono ?_; rintro e w1 ⟨rfl, hb1⟩))
  go_ret
  exact ⟨rfl, HB0.out.trans (hb1.mono HB0.out.size)⟩
end Go.Proofs.YtmdhlkkekidknaaGreatDoor

namespace Go.Proofs.YtmdhlkkekidknaaGreatDoor
open Go.RowKit

theorem bk_set9 {w : World} {b : Nat} {t : TypeId} {x0 x1 x2 x3 x4 x5 x6 x7 x8 : Value} (h : Bk w b t #[x0, x1, x2, x3, x4, x5, x6, x7, x8]) (y0 y1 y2 y3 y4 y5 y6 y7 y8 : Value) : Bk (((((((((w.setCell ⟨b, 0, none⟩ y0).setCell ⟨b, 1, none⟩ y1).setCell ⟨b, 2, none⟩ y2).setCell ⟨b, 3, none⟩ y3).setCell ⟨b, 4, none⟩ y4).setCell ⟨b, 5, none⟩ y5).setCell ⟨b, 6, none⟩ y6).setCell ⟨b, 7, none⟩ y7).setCell ⟨b, 8, none⟩ y8) b t #[y0, y1, y2, y3, y4, y5, y6, y7, y8] := by
  have := (((((((((h.set 0 y0).set 1 y1).set 2 y2).set 3 y3).set 4 y4).set 5 y5).set 6 y6).set 7 y7).set 8 y8)
  simpa using this
theorem below_set9 {B b : Nat} {w0 w : World} (h : Below B w0 w) (hb : B ≤ b) (y0 y1 y2 y3 y4 y5 y6 y7 y8 : Value) : Below B w0 (((((((((w.setCell ⟨b, 0, none⟩ y0).setCell ⟨b, 1, none⟩ y1).setCell ⟨b, 2, none⟩ y2).setCell ⟨b, 3, none⟩ y3).setCell ⟨b, 4, none⟩ y4).setCell ⟨b, 5, none⟩ y5).setCell ⟨b, 6, none⟩ y6).setCell ⟨b, 7, none⟩ y7).setCell ⟨b, 8, none⟩ y8) :=
  ((((((((h.setCell (p := ⟨b, 0, none⟩) hb y0).setCell (p := ⟨b, 1, none⟩) hb y1).setCell (p := ⟨b, 2, none⟩) hb y2).setCell (p := ⟨b, 3, none⟩) hb y3).setCell (p := ⟨b, 4, none⟩) hb y4).setCell (p := ⟨b, 5, none⟩) hb y5).setCell (p := ⟨b, 6, none⟩) hb y6).setCell (p := ⟨b, 7, none⟩) hb y7).setCell (p := ⟨b, 8, none⟩) hb y8
theorem Apd.set9 {w : World} {base size n c b : Nat} {e : TypeId} {A : Option Addr} {xs : List Value} (h : Apd w base e size A n c xs) (hb : b < base) (y0 y1 y2 y3 y4 y5 y6 y7 y8 : Value) : Apd (((((((((w.setCell ⟨b, 0, none⟩ y0).setCell ⟨b, 1, none⟩ y1).setCell ⟨b, 2, none⟩ y2).setCell ⟨b, 3, none⟩ y3).setCell ⟨b, 4, none⟩ y4).setCell ⟨b, 5, none⟩ y5).setCell ⟨b, 6, none⟩ y6).setCell ⟨b, 7, none⟩ y7).setCell ⟨b, 8, none⟩ y8) base e size A n c xs :=
  ((((((((h.setCell (a := ⟨b, 0, none⟩) hb y0).setCell (a := ⟨b, 1, none⟩) hb y1).setCell (a := ⟨b, 2, none⟩) hb y2).setCell (a := ⟨b, 3, none⟩) hb y3).setCell (a := ⟨b, 4, none⟩) hb y4).setCell (a := ⟨b, 5, none⟩) hb y5).setCell (a := ⟨b, 6, none⟩) hb y6).setCell (a := ⟨b, 7, none⟩) hb y7).setCell (a := ⟨b, 8, none⟩) hb y8
theorem res_cellOb {fn : Func} {c i : Tmp} (h : fn.results = #[.cell c 82, .tmp i]) {w : World} {a : Array Value} {b : Nat} {x0 x1 x2 x3 x4 x5 x6 x7 x8 v : Value} (ha : a[c]?.getD undef = .pointer (some ⟨b, 0, none⟩)) (hk : Bk w b 82 #[x0, x1, x2, x3, x4, x5, x6, x7, x8]) (hv : a[i]?.getD undef = v) :
    (results fn a).run Tryz.prog w = .ok (.tuple #[.agg #[x0, x1, x2, x3, x4, x5, x6, x7, x8], v]) w := by
  obtain ⟨h0, h1, h2, h3, h4, h5, h6, h7, h8⟩ := hk.nine
  simp [results, h, ha, hv, go_sem, h0, h1, h2, h3, h4, h5, h6, h7, h8]
def NewO (w : World) (b : Nat) (s : Osl) : Prop := ∀ a, 0 < s.en → s.eA = some a → b ≤ a.block ∧ ∃ cur, w.heap[a.block]? = some (.cells cur 102 (0, 0))
theorem NewO.none (w : World) (b : Nat) {s : Osl} (h : s.en = 0) : NewO w b s := fun _ h0 => absurd h0 (by rw [h]; exact Nat.lt_irrefl 0)
theorem NewO.mono {w : World} {b b' : Nat} {s : Osl} (h : NewO w b s) (hb : b' ≤ b) : NewO w b' s := fun a h1 h2 => ⟨Nat.le_trans hb (h a h1 h2).1, (h a h1 h2).2⟩
theorem NewO.keep {w w' : World} {b bx : Nat} {t : TypeId} {cs : Array Value} {s : Osl} (h : NewO w b s) (hz : Bk w bx t cs) (ht : t ≠ 102) (hk : ∀ k, k ≠ bx → w'.heap[k]? = w.heap[k]?) : NewO w' b s := fun a h1 h2 => by
  obtain ⟨h3, cur, h4⟩ := h a h1 h2
  refine ⟨h3, cur, (hk a.block (fun e => ?_)).trans h4⟩
  rw [e] at h4
  have h5 : w.heap[bx]? = some (.cells cs t (0, 0)) := hz
  rw [h4] at h5
  injection h5 with h5
  injection h5 with _ h6
  exact ht h6.symm
theorem Apd.newO {w : World} {base n c c2 : Nat} {A : Option Addr} {xs : List Value} (h : Apd w base 102 4 A n c xs) {b : Nat} (hb : b ≤ base) {s : Osl} (hs : s.eA = A ∧ s.en = n ∧ s.ec = c2) : NewO w b s := by
  obtain ⟨h1, h2, _⟩ := hs
  rintro a hn hA
  rw [h1] at hA; rw [h2] at hn
  subst hA
  rcases h with ⟨_, ⟨_, h0⟩ | ⟨g, cap, cur, hv, h5, h3, _⟩⟩ | ⟨h0, _⟩
  · omega
  · injection hv with hA
    cases hA
    exact ⟨Nat.le_trans hb h5, cur, h3⟩
  · omega
def OdE (o : Ob) (w : World) (e : Ending) (w' : World) : Prop := ∃ s, e = .returned (.tuple #[obV o s, .int .i64 0]) ∧ ObM w' w'.heap.size o s ∧ Below w.heap.size w w' ∧ NewO w' w.heap.size s
set_option maxRecDepth 100000 in
set_option maxHeartbeats 8000000 in
theorem odecode_any (o : Ob) (w : World) (ho : OkO o) : Calls Tryz.prog 112 #[.string (ofL (encO o))] w (OdE o w) := by
  have HO := Lib.hid ho
  have hlen := ho.len
  cases ho.f with
  | blob k e c d =>
    have HENC : encO o = encN o.kind.toNat ++ (encT (toL o.data) ++ []) := by unfold encO encB; rw [if_neg (by omega), if_neg (by omega), List.append_nil]
    obtain ⟨h1, h2, h3, h4, h5⟩ := c
    obtain ⟨kind, data, ents, tree, pars, auth, time, msg⟩ := o
    simp only at k e h1 h2 h3 h4 h5 d HENC
    subst e h1 h2 h3 h4 h5
    rcases k with rfl | rfl
    · have HENC : encO _ = encN 1 ++ (encT (toL data) ++ []) := HENC
      obtain ⟨s, hs⟩ : ∃ s, ofL (encO (⟨1, data, [], zD, [], ⟨#[]⟩, 0, ⟨#[]⟩⟩ : Ob)) = s := ⟨_, rfl⟩
      rw [hs]
      have hlr : (encN 1 ++ (encT (toL data) ++ [])).length ≤ 1000000 := by rw [← HENC]; omega
      have hle : (encT (toL data) ++ []).length ≤ 1000000 := by rw [List.length_append] at hlr; omega
      obtain ⟨W1, hW1⟩ : ∃ W, (w.alloc (.cells #[.int .i64 0, .string ⟨#[]⟩, .slice none 0 0, .int .u64 0, .int .u64 0, .slice none 0 0, .string ⟨#[]⟩, .int .i64 0, .string ⟨#[]⟩] 82)).alloc (.cells #[.string s, .bool false] 180) = W := ⟨_, rfl⟩
      have HZ1 : Hid (Bk W1 w.heap.size 82 #[.int .i64 0, .string ⟨#[]⟩, .slice none 0 0, .int .u64 0, .int .u64 0, .slice none 0 0, .string ⟨#[]⟩, .int .i64 0, .string ⟨#[]⟩]) := by rw [← hW1]; exact (Bk.new w _ _).alloc _
      have HR1 : Hid (Rdr W1 (w.heap.size + 1) (encN 1 ++ (encT (toL data) ++ []))) := by
        show Bk _ _ _ _
        rw [← HENC, hs, ← hW1]
        have := Bk.new (w.alloc (.cells #[.int .i64 0, .string ⟨#[]⟩, .slice none 0 0, .int .u64 0, .int .u64 0, .slice none 0 0, .string ⟨#[]⟩, .int .i64 0, .string ⟨#[]⟩] 82)) 180 #[.string s, .bool false]
        rwa [World.size_alloc] at this
      have HB1 : Hid (Below w.heap.size w W1) := by rw [← hW1]; exact ((Below.refl _ w).alloc (Nat.le_refl _) _).alloc (by simp) _
      have zW1 : W1.heap.size = w.heap.size + 2 := by rw [← hW1]; simp
      have HC1 := Lib.hid (onumber_any (w.heap.size + 1) 1 (encT (toL data) ++ []) W1 HR1.out (by omega) hlr)
      clear hs HENC hlr
      go_enter Tryz.func112, Tryz.ntmps112
      go_wp2_with fail
      refine HC1.out.mono ?_
      rintro e w2 ⟨rfl, hr, hg⟩
      have HR2 := Lib.hid hr
      have HG2 : Hid (Below w.heap.size w w2) := HB1.out.trans (hg.below (by omega) (fun q hq e => by omega))
      have HZ2 := Lib.hid (hg.bk HZ1.out (by show ¬ w.heap.size = w.heap.size + 1; omega))
      have z2 : w.heap.size + 2 ≤ w2.heap.size := by have := hg.size; omega
      clear hr hg hW1 HC1 HB1 HZ1 HR1
      obtain ⟨W3, hW3⟩ : ∃ W, w2.alloc (.cells #[.int .i64 1, .string ⟨#[]⟩, .slice none 0 0, .int .u64 0, .int .u64 0, .slice none 0 0, .string ⟨#[]⟩, .int .i64 0, .string ⟨#[]⟩] 82) = W := ⟨_, rfl⟩
      have hb3 : Below w2.heap.size w2 W3 := by rw [← hW3]; exact (Below.refl _ w2).alloc (Nat.le_refl _) _
      have HY3 : Hid (Bk W3 w2.heap.size 82 #[.int .i64 1, .string ⟨#[]⟩, .slice none 0 0, .int .u64 0, .int .u64 0, .slice none 0 0, .string ⟨#[]⟩, .int .i64 0, .string ⟨#[]⟩]) := by rw [← hW3]; exact Bk.new w2 _ _
      have HR3 : Hid (Rdr W3 (w.heap.size + 1) (encT (toL data) ++ [])) := Bk.below HR2.out hb3 (by omega)
      have HZ3 := Lib.hid (HZ2.out.below hb3 (by omega))
      have HB3 : Hid (Below w.heap.size w W3) := HG2.out.trans (hb3.mono (by omega))
      have z3 : W3.heap.size = w2.heap.size + 1 := by rw [← hW3]; simp
      have c0 := HY3.out.nine.1
      rw [← hW3] at c0
      have HW3 := Lib.hid hW3
      clear hb3 hW3 HR2 HZ2 HG2
      have HC4 := Lib.hid (ostring_any (w.heap.size + 1) data [] W3 HR3.out d hle)
      go_wp2_with fail
      rw [HW3.out]
      refine HC4.out.mono ?_
      rintro e v4 ⟨rfl, hr, hg⟩
      have HRv := Lib.hid hr
      have HYv := Lib.hid (hg.bk HY3.out (by show ¬ w2.heap.size = w.heap.size + 1; omega))
      have HZv := Lib.hid (hg.bk HZ3.out (by show ¬ w.heap.size = w.heap.size + 1; omega))
      have HBv : Hid (Below w.heap.size w v4) := HB3.out.trans (hg.below (by have := HB3.out.size; omega) (fun q hq e => by omega))
      have zs4 := hg.size
      clear c0 hr hg HC4 HB3 HZ3 HY3 HR3
      obtain ⟨c0, c1, c2, c3, c4, c5, c6, c7, c8⟩ := HYv.out.nine
      have f1 := HYv.out.free 1
      obtain ⟨W4, hW4⟩ : ∃ W, (v4.setCell ⟨w2.heap.size, 1, none⟩ (.string data)) = W := ⟨_, rfl⟩
      have HY4 : Hid (Bk W4 w2.heap.size 82 #[.int .i64 1, .string data, .slice none 0 0, .int .u64 0, .int .u64 0, .slice none 0 0, .string ⟨#[]⟩, .int .i64 0, .string ⟨#[]⟩]) := by rw [← hW4]; have := (HYv.out.set 1 (.string data)); show Bk _ _ _ _; simpa using this
      have HR4 : Hid (Rdr W4 (w.heap.size + 1) ([])) := by rw [← hW4]; exact (Bk.far HRv.out (p := ⟨w2.heap.size, 1, none⟩) (by show w.heap.size + 1 ≠ w2.heap.size; omega) _)
      have HZ4 : Hid (Bk W4 w.heap.size 82 #[.int .i64 0, .string ⟨#[]⟩, .slice none 0 0, .int .u64 0, .int .u64 0, .slice none 0 0, .string ⟨#[]⟩, .int .i64 0, .string ⟨#[]⟩]) := by rw [← hW4]; exact (Bk.far HZv.out (p := ⟨w2.heap.size, 1, none⟩) (by show w.heap.size ≠ w2.heap.size; omega) _)
      have HB4 : Hid (Below w.heap.size w W4) := by rw [← hW4]; exact (Below.setCell HBv.out (p := ⟨w2.heap.size, 1, none⟩) (by show w.heap.size ≤ w2.heap.size; omega) _)
      have zz4 : v4.heap.size ≤ W4.heap.size := by rw [← hW4]; simp [World.setCell]
      clear HRv HYv HZv HBv
      have hRx : Bk W4 (w.heap.size + 1) 180 #[.string ⟨#[]⟩, .bool false] := HR4.out
      obtain ⟨q0, q1, _, _⟩ := hRx.two
      have HM4 : Hid (ObM W4 W4.heap.size ⟨1, data, [], zD, [], ⟨#[]⟩, 0, ⟨#[]⟩⟩ ⟨none, 0, 0, none, 0, 0⟩) := ⟨Sl.nil _ _ _ _, Sl.nil _ _ _ _, Nat.le_refl _, Nat.zero_le _, Nat.le_refl _, Nat.zero_le _⟩
      have HCK := Lib.hid (ochk_any ⟨1, data, [], zD, [], ⟨#[]⟩, 0, ⟨#[]⟩⟩ ⟨none, 0, 0, none, 0, 0⟩ W4.heap.size W4 HM4.out (Nat.le_refl _) HO.out)
      simp only [obV, obC] at HCK
      obtain ⟨k0, k1, k2, k3, k4, k5, k6, k7, k8⟩ := HY4.out.nine
      go_wp2_with fail
      refine HCK.out.mono ?_
      rintro e w8 ⟨rfl, hb8⟩
      have HY8 := Lib.hid (HY4.out.below hb8 HY4.out.lt)
      have HZ8 := Lib.hid (HZ4.out.below hb8 HZ4.out.lt)
      have HB8 : Hid (Below w.heap.size w w8) := HB4.out.trans (hb8.mono HB4.out.size)
      have HM8 := Lib.hid ((HM4.out.below hb8 (Nat.le_refl _)).more hb8.size)
      have z8 : w.heap.size < w8.heap.size := HZ8.out.lt
      clear c0 c1 c2 c3 c4 c5 c6 c7 c8 k0 k1 k2 k3 k4 k5 k6 k7 k8 q0 q1 hRx hb8 HCK hW4
      obtain ⟨c0, c1, c2, c3, c4, c5, c6, c7, c8⟩ := HY8.out.nine
      obtain ⟨d0, d1, d2, d3, d4, d5, d6, d7, d8⟩ := HZ8.out.nine
      have f0 := HZ8.out.free 0; have f1 := HZ8.out.free 1; have f2 := HZ8.out.free 2; have f3 := HZ8.out.free 3; have f4 := HZ8.out.free 4; have f5 := HZ8.out.free 5; have f6 := HZ8.out.free 6; have f7 := HZ8.out.free 7; have f8 := HZ8.out.free 8
      have hne : w.heap.size ≠ w2.heap.size := by omega
      go_wp2_with fail
      refine bodyPost_ret (res_cellOb Tryz.results112 rfl (bk_set9 HZ8.out _ _ _ _ _ _ _ _ _) rfl) rfl ⟨⟨none, 0, 0, none, 0, 0⟩, rfl, ?_, below_set9 HB8.out (Nat.le_refl _) _ _ _ _ _ _ _ _ _, NewO.none _ _ rfl⟩
      exact ⟨Sl.nil _ _ _ _, Sl.nil _ _ _ _, Nat.le_refl _, Nat.zero_le _, Nat.le_refl _, Nat.zero_le _⟩
    · have HENC : encO _ = encN 4 ++ (encT (toL data) ++ []) := HENC
      obtain ⟨s, hs⟩ : ∃ s, ofL (encO (⟨4, data, [], zD, [], ⟨#[]⟩, 0, ⟨#[]⟩⟩ : Ob)) = s := ⟨_, rfl⟩
      rw [hs]
      have hlr : (encN 4 ++ (encT (toL data) ++ [])).length ≤ 1000000 := by rw [← HENC]; omega
      have hle : (encT (toL data) ++ []).length ≤ 1000000 := by rw [List.length_append] at hlr; omega
      obtain ⟨W1, hW1⟩ : ∃ W, (w.alloc (.cells #[.int .i64 0, .string ⟨#[]⟩, .slice none 0 0, .int .u64 0, .int .u64 0, .slice none 0 0, .string ⟨#[]⟩, .int .i64 0, .string ⟨#[]⟩] 82)).alloc (.cells #[.string s, .bool false] 180) = W := ⟨_, rfl⟩
      have HZ1 : Hid (Bk W1 w.heap.size 82 #[.int .i64 0, .string ⟨#[]⟩, .slice none 0 0, .int .u64 0, .int .u64 0, .slice none 0 0, .string ⟨#[]⟩, .int .i64 0, .string ⟨#[]⟩]) := by rw [← hW1]; exact (Bk.new w _ _).alloc _
      have HR1 : Hid (Rdr W1 (w.heap.size + 1) (encN 4 ++ (encT (toL data) ++ []))) := by
        show Bk _ _ _ _
        rw [← HENC, hs, ← hW1]
        have := Bk.new (w.alloc (.cells #[.int .i64 0, .string ⟨#[]⟩, .slice none 0 0, .int .u64 0, .int .u64 0, .slice none 0 0, .string ⟨#[]⟩, .int .i64 0, .string ⟨#[]⟩] 82)) 180 #[.string s, .bool false]
        rwa [World.size_alloc] at this
      have HB1 : Hid (Below w.heap.size w W1) := by rw [← hW1]; exact ((Below.refl _ w).alloc (Nat.le_refl _) _).alloc (by simp) _
      have zW1 : W1.heap.size = w.heap.size + 2 := by rw [← hW1]; simp
      have HC1 := Lib.hid (onumber_any (w.heap.size + 1) 4 (encT (toL data) ++ []) W1 HR1.out (by omega) hlr)
      clear hs HENC hlr
      go_enter Tryz.func112, Tryz.ntmps112
      go_wp2_with fail
      refine HC1.out.mono ?_
      rintro e w2 ⟨rfl, hr, hg⟩
      have HR2 := Lib.hid hr
      have HG2 : Hid (Below w.heap.size w w2) := HB1.out.trans (hg.below (by omega) (fun q hq e => by omega))
      have HZ2 := Lib.hid (hg.bk HZ1.out (by show ¬ w.heap.size = w.heap.size + 1; omega))
      have z2 : w.heap.size + 2 ≤ w2.heap.size := by have := hg.size; omega
      clear hr hg hW1 HC1 HB1 HZ1 HR1
      obtain ⟨W3, hW3⟩ : ∃ W, w2.alloc (.cells #[.int .i64 4, .string ⟨#[]⟩, .slice none 0 0, .int .u64 0, .int .u64 0, .slice none 0 0, .string ⟨#[]⟩, .int .i64 0, .string ⟨#[]⟩] 82) = W := ⟨_, rfl⟩
      have hb3 : Below w2.heap.size w2 W3 := by rw [← hW3]; exact (Below.refl _ w2).alloc (Nat.le_refl _) _
      have HY3 : Hid (Bk W3 w2.heap.size 82 #[.int .i64 4, .string ⟨#[]⟩, .slice none 0 0, .int .u64 0, .int .u64 0, .slice none 0 0, .string ⟨#[]⟩, .int .i64 0, .string ⟨#[]⟩]) := by rw [← hW3]; exact Bk.new w2 _ _
      have HR3 : Hid (Rdr W3 (w.heap.size + 1) (encT (toL data) ++ [])) := Bk.below HR2.out hb3 (by omega)
      have HZ3 := Lib.hid (HZ2.out.below hb3 (by omega))
      have HB3 : Hid (Below w.heap.size w W3) := HG2.out.trans (hb3.mono (by omega))
      have z3 : W3.heap.size = w2.heap.size + 1 := by rw [← hW3]; simp
      have c0 := HY3.out.nine.1
      rw [← hW3] at c0
      have HW3 := Lib.hid hW3
      clear hb3 hW3 HR2 HZ2 HG2
      have HC4 := Lib.hid (ostring_any (w.heap.size + 1) data [] W3 HR3.out d hle)
      go_wp2_with fail
      rw [HW3.out]
      refine HC4.out.mono ?_
      rintro e v4 ⟨rfl, hr, hg⟩
      have HRv := Lib.hid hr
      have HYv := Lib.hid (hg.bk HY3.out (by show ¬ w2.heap.size = w.heap.size + 1; omega))
      have HZv := Lib.hid (hg.bk HZ3.out (by show ¬ w.heap.size = w.heap.size + 1; omega))
      have HBv : Hid (Below w.heap.size w v4) := HB3.out.trans (hg.below (by have := HB3.out.size; omega) (fun q hq e => by omega))
      have zs4 := hg.size
      clear c0 hr hg HC4 HB3 HZ3 HY3 HR3
      obtain ⟨c0, c1, c2, c3, c4, c5, c6, c7, c8⟩ := HYv.out.nine
      have f1 := HYv.out.free 1
      obtain ⟨W4, hW4⟩ : ∃ W, (v4.setCell ⟨w2.heap.size, 1, none⟩ (.string data)) = W := ⟨_, rfl⟩
      have HY4 : Hid (Bk W4 w2.heap.size 82 #[.int .i64 4, .string data, .slice none 0 0, .int .u64 0, .int .u64 0, .slice none 0 0, .string ⟨#[]⟩, .int .i64 0, .string ⟨#[]⟩]) := by rw [← hW4]; have := (HYv.out.set 1 (.string data)); show Bk _ _ _ _; simpa using this
      have HR4 : Hid (Rdr W4 (w.heap.size + 1) ([])) := by rw [← hW4]; exact (Bk.far HRv.out (p := ⟨w2.heap.size, 1, none⟩) (by show w.heap.size + 1 ≠ w2.heap.size; omega) _)
      have HZ4 : Hid (Bk W4 w.heap.size 82 #[.int .i64 0, .string ⟨#[]⟩, .slice none 0 0, .int .u64 0, .int .u64 0, .slice none 0 0, .string ⟨#[]⟩, .int .i64 0, .string ⟨#[]⟩]) := by rw [← hW4]; exact (Bk.far HZv.out (p := ⟨w2.heap.size, 1, none⟩) (by show w.heap.size ≠ w2.heap.size; omega) _)
      have HB4 : Hid (Below w.heap.size w W4) := by rw [← hW4]; exact (Below.setCell HBv.out (p := ⟨w2.heap.size, 1, none⟩) (by show w.heap.size ≤ w2.heap.size; omega) _)
      have zz4 : v4.heap.size ≤ W4.heap.size := by rw [← hW4]; simp [World.setCell]
      clear HRv HYv HZv HBv
      have hRx : Bk W4 (w.heap.size + 1) 180 #[.string ⟨#[]⟩, .bool false] := HR4.out
      obtain ⟨q0, q1, _, _⟩ := hRx.two
      have HM4 : Hid (ObM W4 W4.heap.size ⟨4, data, [], zD, [], ⟨#[]⟩, 0, ⟨#[]⟩⟩ ⟨none, 0, 0, none, 0, 0⟩) := ⟨Sl.nil _ _ _ _, Sl.nil _ _ _ _, Nat.le_refl _, Nat.zero_le _, Nat.le_refl _, Nat.zero_le _⟩
      have HCK := Lib.hid (ochk_any ⟨4, data, [], zD, [], ⟨#[]⟩, 0, ⟨#[]⟩⟩ ⟨none, 0, 0, none, 0, 0⟩ W4.heap.size W4 HM4.out (Nat.le_refl _) HO.out)
      simp only [obV, obC] at HCK
      obtain ⟨k0, k1, k2, k3, k4, k5, k6, k7, k8⟩ := HY4.out.nine
      go_wp2_with fail
      refine HCK.out.mono ?_
      rintro e w8 ⟨rfl, hb8⟩
      have HY8 := Lib.hid (HY4.out.below hb8 HY4.out.lt)
      have HZ8 := Lib.hid (HZ4.out.below hb8 HZ4.out.lt)
      have HB8 : Hid (Below w.heap.size w w8) := HB4.out.trans (hb8.mono HB4.out.size)
      have HM8 := Lib.hid ((HM4.out.below hb8 (Nat.le_refl _)).more hb8.size)
      have z8 : w.heap.size < w8.heap.size := HZ8.out.lt
      clear c0 c1 c2 c3 c4 c5 c6 c7 c8 k0 k1 k2 k3 k4 k5 k6 k7 k8 q0 q1 hRx hb8 HCK hW4
      obtain ⟨c0, c1, c2, c3, c4, c5, c6, c7, c8⟩ := HY8.out.nine
      obtain ⟨d0, d1, d2, d3, d4, d5, d6, d7, d8⟩ := HZ8.out.nine
      have f0 := HZ8.out.free 0; have f1 := HZ8.out.free 1; have f2 := HZ8.out.free 2; have f3 := HZ8.out.free 3; have f4 := HZ8.out.free 4; have f5 := HZ8.out.free 5; have f6 := HZ8.out.free 6; have f7 := HZ8.out.free 7; have f8 := HZ8.out.free 8
      have hne : w.heap.size ≠ w2.heap.size := by omega
      go_wp2_with fail
      refine bodyPost_ret (res_cellOb Tryz.results112 rfl (bk_set9 HZ8.out _ _ _ _ _ _ _ _ _) rfl) rfl ⟨⟨none, 0, 0, none, 0, 0⟩, rfl, ?_, below_set9 HB8.out (Nat.le_refl _) _ _ _ _ _ _ _ _ _, NewO.none _ _ rfl⟩
      exact ⟨Sl.nil _ _ _ _, Sl.nil _ _ _ _, Nat.le_refl _, Nat.zero_le _, Nat.le_refl _, Nat.zero_le _⟩
  | tree k d c e =>
    have HENC : encO o = encN 2 ++ (encN o.ents.length ++ (o.ents.flatMap encE ++ [])) := by unfold encO encB; rw [if_pos k, k, List.append_nil]; rfl
    obtain ⟨h1, h2, h3, h4, h5⟩ := c
    obtain ⟨kind, data, ents, tree, pars, auth, time, msg⟩ := o
    simp only at k e h1 h2 h3 h4 h5 d HENC
    subst k d h1 h2 h3 h4 h5
    obtain ⟨s, hs⟩ : ∃ s, ofL (encO (⟨2, ⟨#[]⟩, ents, zD, [], ⟨#[]⟩, 0, ⟨#[]⟩⟩ : Ob)) = s := ⟨_, rfl⟩
    rw [hs]
    have hlr : (encN 2 ++ (encN ents.length ++ (ents.flatMap encE ++ []))).length ≤ 1000000 := by rw [← HENC]; omega
    have hle : (encN ents.length ++ (ents.flatMap encE ++ [])).length ≤ 1000000 := by rw [List.length_append] at hlr; omega
    obtain ⟨W1, hW1⟩ : ∃ W, (w.alloc (.cells #[.int .i64 0, .string ⟨#[]⟩, .slice none 0 0, .int .u64 0, .int .u64 0, .slice none 0 0, .string ⟨#[]⟩, .int .i64 0, .string ⟨#[]⟩] 82)).alloc (.cells #[.string s, .bool false] 180) = W := ⟨_, rfl⟩
    have HZ1 : Hid (Bk W1 w.heap.size 82 #[.int .i64 0, .string ⟨#[]⟩, .slice none 0 0, .int .u64 0, .int .u64 0, .slice none 0 0, .string ⟨#[]⟩, .int .i64 0, .string ⟨#[]⟩]) := by rw [← hW1]; exact (Bk.new w _ _).alloc _
    have HR1 : Hid (Rdr W1 (w.heap.size + 1) (encN 2 ++ (encN ents.length ++ (ents.flatMap encE ++ [])))) := by
      show Bk _ _ _ _
      rw [← HENC, hs, ← hW1]
      have := Bk.new (w.alloc (.cells #[.int .i64 0, .string ⟨#[]⟩, .slice none 0 0, .int .u64 0, .int .u64 0, .slice none 0 0, .string ⟨#[]⟩, .int .i64 0, .string ⟨#[]⟩] 82)) 180 #[.string s, .bool false]
      rwa [World.size_alloc] at this
    have HB1 : Hid (Below w.heap.size w W1) := by rw [← hW1]; exact ((Below.refl _ w).alloc (Nat.le_refl _) _).alloc (by simp) _
    have zW1 : W1.heap.size = w.heap.size + 2 := by rw [← hW1]; simp
    have HC1 := Lib.hid (onumber_any (w.heap.size + 1) 2 (encN ents.length ++ (ents.flatMap encE ++ [])) W1 HR1.out (by omega) hlr)
    clear hs HENC hlr
    go_enter Tryz.func112, Tryz.ntmps112
    go_wp2_with fail
    refine HC1.out.mono ?_
    rintro e w2 ⟨rfl, hr, hg⟩
    have HR2 := Lib.hid hr
    have HG2 : Hid (Below w.heap.size w w2) := HB1.out.trans (hg.below (by omega) (fun q hq e => by omega))
    have HZ2 := Lib.hid (hg.bk HZ1.out (by show ¬ w.heap.size = w.heap.size + 1; omega))
    have z2 : w.heap.size + 2 ≤ w2.heap.size := by have := hg.size; omega
    clear hr hg hW1 HC1 HB1 HZ1 HR1
    obtain ⟨W3, hW3⟩ : ∃ W, w2.alloc (.cells #[.int .i64 2, .string ⟨#[]⟩, .slice none 0 0, .int .u64 0, .int .u64 0, .slice none 0 0, .string ⟨#[]⟩, .int .i64 0, .string ⟨#[]⟩] 82) = W := ⟨_, rfl⟩
    have hb3 : Below w2.heap.size w2 W3 := by rw [← hW3]; exact (Below.refl _ w2).alloc (Nat.le_refl _) _
    have HY3 : Hid (Bk W3 w2.heap.size 82 #[.int .i64 2, .string ⟨#[]⟩, .slice none 0 0, .int .u64 0, .int .u64 0, .slice none 0 0, .string ⟨#[]⟩, .int .i64 0, .string ⟨#[]⟩]) := by rw [← hW3]; exact Bk.new w2 _ _
    have HR3 : Hid (Rdr W3 (w.heap.size + 1) (encN ents.length ++ (ents.flatMap encE ++ []))) := Bk.below HR2.out hb3 (by omega)
    have HZ3 := Lib.hid (HZ2.out.below hb3 (by omega))
    have HB3 : Hid (Below w.heap.size w W3) := HG2.out.trans (hb3.mono (by omega))
    have z3 : W3.heap.size = w2.heap.size + 1 := by rw [← hW3]; simp
    have c0 := HY3.out.nine.1
    rw [← hW3] at c0
    have HW3 := Lib.hid hW3
    clear hb3 hW3 HR2 HZ2 HG2
    have HC4 := Lib.hid (olistE_any (w.heap.size + 1) ents [] W3 HR3.out e.all e.few hle)
    go_wp2_with fail
    rw [HW3.out]
    refine HC4.out.mono ?_
    rintro e v4 ⟨A4, c4x, rfl, hn4, hm4, hap, hr, hg⟩
    have HRv := Lib.hid hr
    have HYv := Lib.hid (hg.bk HY3.out (by show ¬ w2.heap.size = w.heap.size + 1; omega))
    have HZv := Lib.hid (hg.bk HZ3.out (by show ¬ w.heap.size = w.heap.size + 1; omega))
    have HBv : Hid (Below w.heap.size w v4) := HB3.out.trans (hg.below (by have := HB3.out.size; omega) (fun q hq e => by omega))
    have zs4 := hg.size
    have HAv := Lib.hid hap
    clear c0 hr hg hap HC4 HB3 HZ3 HY3 HR3
    obtain ⟨c0, c1, c2, c3, c4, c5, c6, c7, c8⟩ := HYv.out.nine
    have f2 := HYv.out.free 2
    obtain ⟨W4, hW4⟩ : ∃ W, (v4.setCell ⟨w2.heap.size, 2, none⟩ (.slice A4 ents.length c4x)) = W := ⟨_, rfl⟩
    have HY4 : Hid (Bk W4 w2.heap.size 82 #[.int .i64 2, .string ⟨#[]⟩, .slice A4 ents.length c4x, .int .u64 0, .int .u64 0, .slice none 0 0, .string ⟨#[]⟩, .int .i64 0, .string ⟨#[]⟩]) := by rw [← hW4]; have := (HYv.out.set 2 (.slice A4 ents.length c4x)); show Bk _ _ _ _; simpa using this
    have HR4 : Hid (Rdr W4 (w.heap.size + 1) ([])) := by rw [← hW4]; exact (Bk.far HRv.out (p := ⟨w2.heap.size, 2, none⟩) (by show w.heap.size + 1 ≠ w2.heap.size; omega) _)
    have HZ4 : Hid (Bk W4 w.heap.size 82 #[.int .i64 0, .string ⟨#[]⟩, .slice none 0 0, .int .u64 0, .int .u64 0, .slice none 0 0, .string ⟨#[]⟩, .int .i64 0, .string ⟨#[]⟩]) := by rw [← hW4]; exact (Bk.far HZv.out (p := ⟨w2.heap.size, 2, none⟩) (by show w.heap.size ≠ w2.heap.size; omega) _)
    have HB4 : Hid (Below w.heap.size w W4) := by rw [← hW4]; exact (Below.setCell HBv.out (p := ⟨w2.heap.size, 2, none⟩) (by show w.heap.size ≤ w2.heap.size; omega) _)
    have zz4 : v4.heap.size ≤ W4.heap.size := by rw [← hW4]; simp [World.setCell]
    have HA4 := Lib.hid ((Apd.setCell HAv.out (a := ⟨w2.heap.size, 2, none⟩) (by show w2.heap.size < _; omega) (.slice A4 ents.length c4x)))
    rw [hW4] at HA4
    clear HRv HYv HZv HBv HAv
    have hRx : Bk W4 (w.heap.size + 1) 180 #[.string ⟨#[]⟩, .bool false] := HR4.out
    obtain ⟨q0, q1, _, _⟩ := hRx.two
    have HM4 : Hid (ObM W4 W4.heap.size ⟨2, ⟨#[]⟩, ents, zD, [], ⟨#[]⟩, 0, ⟨#[]⟩⟩ ⟨A4, ents.length, c4x, none, 0, 0⟩) := ⟨HA4.out.sl, Sl.nil _ _ _ _, hn4, hm4, Nat.le_refl _, Nat.zero_le _⟩
    have HCK := Lib.hid (ochk_any ⟨2, ⟨#[]⟩, ents, zD, [], ⟨#[]⟩, 0, ⟨#[]⟩⟩ ⟨A4, ents.length, c4x, none, 0, 0⟩ W4.heap.size W4 HM4.out (Nat.le_refl _) HO.out)
    simp only [obV, obC] at HCK
    obtain ⟨k0, k1, k2, k3, k4, k5, k6, k7, k8⟩ := HY4.out.nine
    go_wp2_with fail
    refine HCK.out.mono ?_
    rintro e w8 ⟨rfl, hb8⟩
    have HY8 := Lib.hid (HY4.out.below hb8 HY4.out.lt)
    have HZ8 := Lib.hid (HZ4.out.below hb8 HZ4.out.lt)
    have HB8 : Hid (Below w.heap.size w w8) := HB4.out.trans (hb8.mono HB4.out.size)
    have HM8 := Lib.hid ((HM4.out.below hb8 (Nat.le_refl _)).more hb8.size)
    have z8 : w.heap.size < w8.heap.size := HZ8.out.lt
    have HA8 := Lib.hid (HA4.out.below hb8)
    clear c0 c1 c2 c3 c4 c5 c6 c7 c8 k0 k1 k2 k3 k4 k5 k6 k7 k8 q0 q1 hRx hb8 HCK hW4
    obtain ⟨c0, c1, c2, c3, c4, c5, c6, c7, c8⟩ := HY8.out.nine
    obtain ⟨d0, d1, d2, d3, d4, d5, d6, d7, d8⟩ := HZ8.out.nine
    have f0 := HZ8.out.free 0; have f1 := HZ8.out.free 1; have f2 := HZ8.out.free 2; have f3 := HZ8.out.free 3; have f4 := HZ8.out.free 4; have f5 := HZ8.out.free 5; have f6 := HZ8.out.free 6; have f7 := HZ8.out.free 7; have f8 := HZ8.out.free 8
    have hne : w.heap.size ≠ w2.heap.size := by omega
    go_wp2_with fail
    refine bodyPost_ret (res_cellOb Tryz.results112 rfl (bk_set9 HZ8.out _ _ _ _ _ _ _ _ _) rfl) rfl ⟨⟨A4, ents.length, c4x, none, 0, 0⟩, rfl, ?_, below_set9 HB8.out (Nat.le_refl _) _ _ _ _ _ _ _ _ _, (HA8.out.set9 (by omega) _ _ _ _ _ _ _ _ _).newO (by omega) ⟨rfl, rfl, rfl⟩⟩
    exact ⟨(HA8.out.set9 (by omega) _ _ _ _ _ _ _ _ _).sl, Sl.nil _ _ _ _, hn4, hm4, Nat.le_refl _, Nat.zero_le _⟩
  | commit k d e c =>
    have HENC : encO o = encN 3 ++ (digB o.tree ++ (encN o.pars.length ++ (o.pars.flatMap digB ++ (encT (toL o.auth) ++ (encN o.time.toNat ++ (encT (toL o.msg) ++ [])))))) := by unfold encO encB; rw [if_neg (by omega), if_pos k, k, List.append_nil]; rfl
    obtain ⟨kind, data, ents, ⟨t1, t2⟩, pars, auth, time, msg⟩ := o
    simp only at k e d HENC
    subst k d e
    have ht0 : 0 ≤ time := c.t0
    obtain ⟨tn, htn⟩ := Int.eq_ofNat_of_zero_le ht0
    subst htn
    have ht1 : (tn : Int) ≤ 1099511627776 := c.t1
    have htn : tn ≤ 1099511627776 := by omega
    have hau : auth.size ≤ 24 := nameB_size c.auth
    have hmg : msg.size ≤ 200 := c.msg
    have hwt : WfD (t1, t2) := c.wf
    have HPS : Hid (OkPs pars) := c.pars
    simp only [Int.toNat_natCast] at HENC
    clear c ht0 ht1
    obtain ⟨s, hs⟩ : ∃ s, ofL (encO (⟨3, ⟨#[]⟩, [], (t1, t2), pars, auth, (tn : Int), msg⟩ : Ob)) = s := ⟨_, rfl⟩
    rw [hs]
    have hlr : (encN 3 ++ (digB (t1, t2) ++ (encN pars.length ++ (pars.flatMap digB ++ (encT (toL auth) ++ (encN tn ++ (encT (toL msg) ++ []))))))).length ≤ 1000000 := by rw [← HENC]; omega
    have hle : (digB (t1, t2) ++ (encN pars.length ++ (pars.flatMap digB ++ (encT (toL auth) ++ (encN tn ++ (encT (toL msg) ++ [])))))).length ≤ 1000000 := by rw [List.length_append] at hlr; omega
    obtain ⟨W1, hW1⟩ : ∃ W, (w.alloc (.cells #[.int .i64 0, .string ⟨#[]⟩, .slice none 0 0, .int .u64 0, .int .u64 0, .slice none 0 0, .string ⟨#[]⟩, .int .i64 0, .string ⟨#[]⟩] 82)).alloc (.cells #[.string s, .bool false] 180) = W := ⟨_, rfl⟩
    have HZ1 : Hid (Bk W1 w.heap.size 82 #[.int .i64 0, .string ⟨#[]⟩, .slice none 0 0, .int .u64 0, .int .u64 0, .slice none 0 0, .string ⟨#[]⟩, .int .i64 0, .string ⟨#[]⟩]) := by rw [← hW1]; exact (Bk.new w _ _).alloc _
    have HR1 : Hid (Rdr W1 (w.heap.size + 1) (encN 3 ++ (digB (t1, t2) ++ (encN pars.length ++ (pars.flatMap digB ++ (encT (toL auth) ++ (encN tn ++ (encT (toL msg) ++ [])))))))) := by
      show Bk _ _ _ _
      rw [← HENC, hs, ← hW1]
      have := Bk.new (w.alloc (.cells #[.int .i64 0, .string ⟨#[]⟩, .slice none 0 0, .int .u64 0, .int .u64 0, .slice none 0 0, .string ⟨#[]⟩, .int .i64 0, .string ⟨#[]⟩] 82)) 180 #[.string s, .bool false]
      rwa [World.size_alloc] at this
    have HB1 : Hid (Below w.heap.size w W1) := by rw [← hW1]; exact ((Below.refl _ w).alloc (Nat.le_refl _) _).alloc (by simp) _
    have zW1 : W1.heap.size = w.heap.size + 2 := by rw [← hW1]; simp
    have HC1 := Lib.hid (onumber_any (w.heap.size + 1) 3 (digB (t1, t2) ++ (encN pars.length ++ (pars.flatMap digB ++ (encT (toL auth) ++ (encN tn ++ (encT (toL msg) ++ [])))))) W1 HR1.out (by omega) hlr)
    clear hs HENC hlr
    go_enter Tryz.func112, Tryz.ntmps112
    go_wp2_with fail
    refine HC1.out.mono ?_
    rintro e w2 ⟨rfl, hr, hg⟩
    have HR2 := Lib.hid hr
    have HG2 : Hid (Below w.heap.size w w2) := HB1.out.trans (hg.below (by omega) (fun q hq e => by omega))
    have HZ2 := Lib.hid (hg.bk HZ1.out (by show ¬ w.heap.size = w.heap.size + 1; omega))
    have z2 : w.heap.size + 2 ≤ w2.heap.size := by have := hg.size; omega
    clear hr hg hW1 HC1 HB1 HZ1 HR1
    obtain ⟨W3, hW3⟩ : ∃ W, w2.alloc (.cells #[.int .i64 3, .string ⟨#[]⟩, .slice none 0 0, .int .u64 0, .int .u64 0, .slice none 0 0, .string ⟨#[]⟩, .int .i64 0, .string ⟨#[]⟩] 82) = W := ⟨_, rfl⟩
    have hb3 : Below w2.heap.size w2 W3 := by rw [← hW3]; exact (Below.refl _ w2).alloc (Nat.le_refl _) _
    have HY3 : Hid (Bk W3 w2.heap.size 82 #[.int .i64 3, .string ⟨#[]⟩, .slice none 0 0, .int .u64 0, .int .u64 0, .slice none 0 0, .string ⟨#[]⟩, .int .i64 0, .string ⟨#[]⟩]) := by rw [← hW3]; exact Bk.new w2 _ _
    have HR3 : Hid (Rdr W3 (w.heap.size + 1) (digB (t1, t2) ++ (encN pars.length ++ (pars.flatMap digB ++ (encT (toL auth) ++ (encN tn ++ (encT (toL msg) ++ []))))))) := Bk.below HR2.out hb3 (by omega)
    have HZ3 := Lib.hid (HZ2.out.below hb3 (by omega))
    have HB3 : Hid (Below w.heap.size w W3) := HG2.out.trans (hb3.mono (by omega))
    have z3 : W3.heap.size = w2.heap.size + 1 := by rw [← hW3]; simp
    have c0 := HY3.out.nine.1
    rw [← hW3] at c0
    have HW3 := Lib.hid hW3
    clear hb3 hW3 HR2 HZ2 HG2
    have hl3 : (encN pars.length ++ (pars.flatMap digB ++ (encT (toL auth) ++ (encN tn ++ (encT (toL msg) ++ []))))).length ≤ 1000000 := by
      have h := hle
      simp only [List.length_append] at h ⊢
      omega
    have hl2 : (encT (toL auth) ++ (encN tn ++ (encT (toL msg) ++ []))).length ≤ 1000000 := by
      have h := hle
      simp only [List.length_append] at h ⊢
      omega
    have hl1 : (encN tn ++ (encT (toL msg) ++ [])).length ≤ 1000000 := by
      have h := hle
      simp only [List.length_append] at h ⊢
      omega
    have hl0 : (encT (toL msg) ++ []).length ≤ 1000000 := by
      have h := hle
      simp only [List.length_append] at h ⊢
      omega
    have HC4 := Lib.hid (odigest_any (w.heap.size + 1) (t1, t2) (encN pars.length ++ (pars.flatMap digB ++ (encT (toL auth) ++ (encN tn ++ (encT (toL msg) ++ []))))) W3 HR3.out hwt hle)
    go_wp2_with fail
    rw [HW3.out]
    refine HC4.out.mono ?_
    rintro e v4 ⟨rfl, hr, hg⟩
    simp only [digV]
    have HRv := Lib.hid hr
    have HYv := Lib.hid (hg.bk HY3.out (by show ¬ w2.heap.size = w.heap.size + 1; omega))
    have HZv := Lib.hid (hg.bk HZ3.out (by show ¬ w.heap.size = w.heap.size + 1; omega))
    have HBv : Hid (Below w.heap.size w v4) := HB3.out.trans (hg.below (by have := HB3.out.size; omega) (fun q hq e => by omega))
    have zs4 := hg.size
    clear c0 hr hg HC4 HB3 HZ3 HY3 HR3
    obtain ⟨c0, c1, c2, c3, c4, c5, c6, c7, c8⟩ := HYv.out.nine
    have f3 := HYv.out.free 3
    have f4 := HYv.out.free 4
    obtain ⟨W4, hW4⟩ : ∃ W, ((v4.setCell ⟨w2.heap.size, 3, none⟩ (.int .u64 t1)).setCell ⟨w2.heap.size, 4, none⟩ (.int .u64 t2)) = W := ⟨_, rfl⟩
    have HY4 : Hid (Bk W4 w2.heap.size 82 #[.int .i64 3, .string ⟨#[]⟩, .slice none 0 0, .int .u64 t1, .int .u64 t2, .slice none 0 0, .string ⟨#[]⟩, .int .i64 0, .string ⟨#[]⟩]) := by rw [← hW4]; have := ((HYv.out.set 3 (.int .u64 t1)).set 4 (.int .u64 t2)); show Bk _ _ _ _; simpa using this
    have HR4 : Hid (Rdr W4 (w.heap.size + 1) (encN pars.length ++ (pars.flatMap digB ++ (encT (toL auth) ++ (encN tn ++ (encT (toL msg) ++ [])))))) := by rw [← hW4]; exact (Bk.far (Bk.far HRv.out (p := ⟨w2.heap.size, 3, none⟩) (by show w.heap.size + 1 ≠ w2.heap.size; omega) _) (p := ⟨w2.heap.size, 4, none⟩) (by show w.heap.size + 1 ≠ w2.heap.size; omega) _)
    have HZ4 : Hid (Bk W4 w.heap.size 82 #[.int .i64 0, .string ⟨#[]⟩, .slice none 0 0, .int .u64 0, .int .u64 0, .slice none 0 0, .string ⟨#[]⟩, .int .i64 0, .string ⟨#[]⟩]) := by rw [← hW4]; exact (Bk.far (Bk.far HZv.out (p := ⟨w2.heap.size, 3, none⟩) (by show w.heap.size ≠ w2.heap.size; omega) _) (p := ⟨w2.heap.size, 4, none⟩) (by show w.heap.size ≠ w2.heap.size; omega) _)
    have HB4 : Hid (Below w.heap.size w W4) := by rw [← hW4]; exact (Below.setCell (Below.setCell HBv.out (p := ⟨w2.heap.size, 3, none⟩) (by show w.heap.size ≤ w2.heap.size; omega) _) (p := ⟨w2.heap.size, 4, none⟩) (by show w.heap.size ≤ w2.heap.size; omega) _)
    have zz4 : v4.heap.size ≤ W4.heap.size := by rw [← hW4]; simp [World.setCell]
    clear HRv HYv HZv HBv
    have HC5 := Lib.hid (olistD_any (w.heap.size + 1) pars (encT (toL auth) ++ (encN tn ++ (encT (toL msg) ++ []))) W4 HR4.out HPS.out.wf HPS.out.few hl3)
    go_wp2_with fail
    refine HC5.out.mono ?_
    rintro e v5 ⟨A5, c5x, rfl, hn5, hm5, hap, hr, hg⟩
    have HRv := Lib.hid hr
    have HYv := Lib.hid (hg.bk HY4.out (by show ¬ w2.heap.size = w.heap.size + 1; omega))
    have HZv := Lib.hid (hg.bk HZ4.out (by show ¬ w.heap.size = w.heap.size + 1; omega))
    have HBv : Hid (Below w.heap.size w v5) := HB4.out.trans (hg.below (by have := HB4.out.size; omega) (fun q hq e => by omega))
    have zs5 := hg.size
    have HAv := Lib.hid hap
    clear hr hg hap HC5 HB4 HZ4 HY4 HR4 hW4
    obtain ⟨c0, c1, c2, c3, c4, c5, c6, c7, c8⟩ := HYv.out.nine
    have f5 := HYv.out.free 5
    obtain ⟨W5, hW5⟩ : ∃ W, (v5.setCell ⟨w2.heap.size, 5, none⟩ (.slice A5 pars.length c5x)) = W := ⟨_, rfl⟩
    have HY5 : Hid (Bk W5 w2.heap.size 82 #[.int .i64 3, .string ⟨#[]⟩, .slice none 0 0, .int .u64 t1, .int .u64 t2, .slice A5 pars.length c5x, .string ⟨#[]⟩, .int .i64 0, .string ⟨#[]⟩]) := by rw [← hW5]; have := (HYv.out.set 5 (.slice A5 pars.length c5x)); show Bk _ _ _ _; simpa using this
    have HR5 : Hid (Rdr W5 (w.heap.size + 1) (encT (toL auth) ++ (encN tn ++ (encT (toL msg) ++ [])))) := by rw [← hW5]; exact (Bk.far HRv.out (p := ⟨w2.heap.size, 5, none⟩) (by show w.heap.size + 1 ≠ w2.heap.size; omega) _)
    have HZ5 : Hid (Bk W5 w.heap.size 82 #[.int .i64 0, .string ⟨#[]⟩, .slice none 0 0, .int .u64 0, .int .u64 0, .slice none 0 0, .string ⟨#[]⟩, .int .i64 0, .string ⟨#[]⟩]) := by rw [← hW5]; exact (Bk.far HZv.out (p := ⟨w2.heap.size, 5, none⟩) (by show w.heap.size ≠ w2.heap.size; omega) _)
    have HB5 : Hid (Below w.heap.size w W5) := by rw [← hW5]; exact (Below.setCell HBv.out (p := ⟨w2.heap.size, 5, none⟩) (by show w.heap.size ≤ w2.heap.size; omega) _)
    have zz5 : v5.heap.size ≤ W5.heap.size := by rw [← hW5]; simp [World.setCell]
    have HA5 := Lib.hid ((Apd.setCell HAv.out (a := ⟨w2.heap.size, 5, none⟩) (by show w2.heap.size < _; omega) (.slice A5 pars.length c5x)))
    rw [hW5] at HA5
    clear HRv HYv HZv HBv HAv
    have HC6 := Lib.hid (ostring_any (w.heap.size + 1) auth (encN tn ++ (encT (toL msg) ++ [])) W5 HR5.out (by omega) hl2)
    go_wp2_with fail
    refine HC6.out.mono ?_
    rintro e v6 ⟨rfl, hr, hg⟩
    have HRv := Lib.hid hr
    have HYv := Lib.hid (hg.bk HY5.out (by show ¬ w2.heap.size = w.heap.size + 1; omega))
    have HZv := Lib.hid (hg.bk HZ5.out (by show ¬ w.heap.size = w.heap.size + 1; omega))
    have HBv : Hid (Below w.heap.size w v6) := HB5.out.trans (hg.below (by have := HB5.out.size; omega) (fun q hq e => by omega))
    have zs6 := hg.size
    have HAv := Lib.hid (HA5.out.gb hg (by omega))
    clear hr hg HC6 HB5 HZ5 HY5 HR5 hW5
    obtain ⟨c0, c1, c2, c3, c4, c5, c6, c7, c8⟩ := HYv.out.nine
    have f6 := HYv.out.free 6
    obtain ⟨W6, hW6⟩ : ∃ W, (v6.setCell ⟨w2.heap.size, 6, none⟩ (.string auth)) = W := ⟨_, rfl⟩
    have HY6 : Hid (Bk W6 w2.heap.size 82 #[.int .i64 3, .string ⟨#[]⟩, .slice none 0 0, .int .u64 t1, .int .u64 t2, .slice A5 pars.length c5x, .string auth, .int .i64 0, .string ⟨#[]⟩]) := by rw [← hW6]; have := (HYv.out.set 6 (.string auth)); show Bk _ _ _ _; simpa using this
    have HR6 : Hid (Rdr W6 (w.heap.size + 1) (encN tn ++ (encT (toL msg) ++ []))) := by rw [← hW6]; exact (Bk.far HRv.out (p := ⟨w2.heap.size, 6, none⟩) (by show w.heap.size + 1 ≠ w2.heap.size; omega) _)
    have HZ6 : Hid (Bk W6 w.heap.size 82 #[.int .i64 0, .string ⟨#[]⟩, .slice none 0 0, .int .u64 0, .int .u64 0, .slice none 0 0, .string ⟨#[]⟩, .int .i64 0, .string ⟨#[]⟩]) := by rw [← hW6]; exact (Bk.far HZv.out (p := ⟨w2.heap.size, 6, none⟩) (by show w.heap.size ≠ w2.heap.size; omega) _)
    have HB6 : Hid (Below w.heap.size w W6) := by rw [← hW6]; exact (Below.setCell HBv.out (p := ⟨w2.heap.size, 6, none⟩) (by show w.heap.size ≤ w2.heap.size; omega) _)
    have zz6 : v6.heap.size ≤ W6.heap.size := by rw [← hW6]; simp [World.setCell]
    have HA6 := Lib.hid ((Apd.setCell HAv.out (a := ⟨w2.heap.size, 6, none⟩) (by show w2.heap.size < _; omega) (.string auth)))
    rw [hW6] at HA6
    clear HRv HYv HZv HBv HAv
    have HC7 := Lib.hid (onumber_any (w.heap.size + 1) tn (encT (toL msg) ++ []) W6 HR6.out htn hl1)
    go_wp2_with fail
    refine HC7.out.mono ?_
    rintro e v7 ⟨rfl, hr, hg⟩
    have HRv := Lib.hid hr
    have HYv := Lib.hid (hg.bk HY6.out (by show ¬ w2.heap.size = w.heap.size + 1; omega))
    have HZv := Lib.hid (hg.bk HZ6.out (by show ¬ w.heap.size = w.heap.size + 1; omega))
    have HBv : Hid (Below w.heap.size w v7) := HB6.out.trans (hg.below (by have := HB6.out.size; omega) (fun q hq e => by omega))
    have zs7 := hg.size
    have HAv := Lib.hid (HA6.out.gb hg (by omega))
    clear hr hg HC7 HB6 HZ6 HY6 HR6 hW6
    obtain ⟨c0, c1, c2, c3, c4, c5, c6, c7, c8⟩ := HYv.out.nine
    have f7 := HYv.out.free 7
    obtain ⟨W7, hW7⟩ : ∃ W, (v7.setCell ⟨w2.heap.size, 7, none⟩ (.int .i64 (tn : Int))) = W := ⟨_, rfl⟩
    have HY7 : Hid (Bk W7 w2.heap.size 82 #[.int .i64 3, .string ⟨#[]⟩, .slice none 0 0, .int .u64 t1, .int .u64 t2, .slice A5 pars.length c5x, .string auth, .int .i64 (tn : Int), .string ⟨#[]⟩]) := by rw [← hW7]; have := (HYv.out.set 7 (.int .i64 (tn : Int))); show Bk _ _ _ _; simpa using this
    have HR7 : Hid (Rdr W7 (w.heap.size + 1) (encT (toL msg) ++ [])) := by rw [← hW7]; exact (Bk.far HRv.out (p := ⟨w2.heap.size, 7, none⟩) (by show w.heap.size + 1 ≠ w2.heap.size; omega) _)
    have HZ7 : Hid (Bk W7 w.heap.size 82 #[.int .i64 0, .string ⟨#[]⟩, .slice none 0 0, .int .u64 0, .int .u64 0, .slice none 0 0, .string ⟨#[]⟩, .int .i64 0, .string ⟨#[]⟩]) := by rw [← hW7]; exact (Bk.far HZv.out (p := ⟨w2.heap.size, 7, none⟩) (by show w.heap.size ≠ w2.heap.size; omega) _)
    have HB7 : Hid (Below w.heap.size w W7) := by rw [← hW7]; exact (Below.setCell HBv.out (p := ⟨w2.heap.size, 7, none⟩) (by show w.heap.size ≤ w2.heap.size; omega) _)
    have zz7 : v7.heap.size ≤ W7.heap.size := by rw [← hW7]; simp [World.setCell]
    have HA7 := Lib.hid ((Apd.setCell HAv.out (a := ⟨w2.heap.size, 7, none⟩) (by show w2.heap.size < _; omega) (.int .i64 (tn : Int))))
    rw [hW7] at HA7
    clear HRv HYv HZv HBv HAv
    have HC9 := Lib.hid (ostring_any (w.heap.size + 1) msg [] W7 HR7.out (by omega) hl0)
    go_wp2_with fail
    refine HC9.out.mono ?_
    rintro e v9 ⟨rfl, hr, hg⟩
    have HRv := Lib.hid hr
    have HYv := Lib.hid (hg.bk HY7.out (by show ¬ w2.heap.size = w.heap.size + 1; omega))
    have HZv := Lib.hid (hg.bk HZ7.out (by show ¬ w.heap.size = w.heap.size + 1; omega))
    have HBv : Hid (Below w.heap.size w v9) := HB7.out.trans (hg.below (by have := HB7.out.size; omega) (fun q hq e => by omega))
    have zs9 := hg.size
    have HAv := Lib.hid (HA7.out.gb hg (by omega))
    clear hr hg HC9 HB7 HZ7 HY7 HR7 hW7
    obtain ⟨c0, c1, c2, c3, c4, c5, c6, c7, c8⟩ := HYv.out.nine
    have f8 := HYv.out.free 8
    obtain ⟨W9, hW9⟩ : ∃ W, (v9.setCell ⟨w2.heap.size, 8, none⟩ (.string msg)) = W := ⟨_, rfl⟩
    have HY9 : Hid (Bk W9 w2.heap.size 82 #[.int .i64 3, .string ⟨#[]⟩, .slice none 0 0, .int .u64 t1, .int .u64 t2, .slice A5 pars.length c5x, .string auth, .int .i64 (tn : Int), .string msg]) := by rw [← hW9]; have := (HYv.out.set 8 (.string msg)); show Bk _ _ _ _; simpa using this
    have HR9 : Hid (Rdr W9 (w.heap.size + 1) ([])) := by rw [← hW9]; exact (Bk.far HRv.out (p := ⟨w2.heap.size, 8, none⟩) (by show w.heap.size + 1 ≠ w2.heap.size; omega) _)
    have HZ9 : Hid (Bk W9 w.heap.size 82 #[.int .i64 0, .string ⟨#[]⟩, .slice none 0 0, .int .u64 0, .int .u64 0, .slice none 0 0, .string ⟨#[]⟩, .int .i64 0, .string ⟨#[]⟩]) := by rw [← hW9]; exact (Bk.far HZv.out (p := ⟨w2.heap.size, 8, none⟩) (by show w.heap.size ≠ w2.heap.size; omega) _)
    have HB9 : Hid (Below w.heap.size w W9) := by rw [← hW9]; exact (Below.setCell HBv.out (p := ⟨w2.heap.size, 8, none⟩) (by show w.heap.size ≤ w2.heap.size; omega) _)
    have zz9 : v9.heap.size ≤ W9.heap.size := by rw [← hW9]; simp [World.setCell]
    have HA9 := Lib.hid ((Apd.setCell HAv.out (a := ⟨w2.heap.size, 8, none⟩) (by show w2.heap.size < _; omega) (.string msg)))
    rw [hW9] at HA9
    clear HRv HYv HZv HBv HAv
    have hRx : Bk W9 (w.heap.size + 1) 180 #[.string ⟨#[]⟩, .bool false] := HR9.out
    obtain ⟨q0, q1, _, _⟩ := hRx.two
    have HM9 : Hid (ObM W9 W9.heap.size ⟨3, ⟨#[]⟩, [], (t1, t2), pars, auth, (tn : Int), msg⟩ ⟨none, 0, 0, A5, pars.length, c5x⟩) := ⟨Sl.nil _ _ _ _, HA9.out.sl, Nat.le_refl _, Nat.zero_le _, hn5, hm5⟩
    have HCK := Lib.hid (ochk_any ⟨3, ⟨#[]⟩, [], (t1, t2), pars, auth, (tn : Int), msg⟩ ⟨none, 0, 0, A5, pars.length, c5x⟩ W9.heap.size W9 HM9.out (Nat.le_refl _) HO.out)
    simp only [obV, obC] at HCK
    obtain ⟨k0, k1, k2, k3, k4, k5, k6, k7, k8⟩ := HY9.out.nine
    go_wp2_with fail
    refine HCK.out.mono ?_
    rintro e w8 ⟨rfl, hb8⟩
    have HY8 := Lib.hid (HY9.out.below hb8 HY9.out.lt)
    have HZ8 := Lib.hid (HZ9.out.below hb8 HZ9.out.lt)
    have HB8 : Hid (Below w.heap.size w w8) := HB9.out.trans (hb8.mono HB9.out.size)
    have HM8 := Lib.hid ((HM9.out.below hb8 (Nat.le_refl _)).more hb8.size)
    have z8 : w.heap.size < w8.heap.size := HZ8.out.lt
    have HA8 := Lib.hid (HA9.out.below hb8)
    clear c0 c1 c2 c3 c4 c5 c6 c7 c8 k0 k1 k2 k3 k4 k5 k6 k7 k8 q0 q1 hRx hb8 HCK hW9
    obtain ⟨c0, c1, c2, c3, c4, c5, c6, c7, c8⟩ := HY8.out.nine
    obtain ⟨d0, d1, d2, d3, d4, d5, d6, d7, d8⟩ := HZ8.out.nine
    have f0 := HZ8.out.free 0; have f1 := HZ8.out.free 1; have f2 := HZ8.out.free 2; have f3 := HZ8.out.free 3; have f4 := HZ8.out.free 4; have f5 := HZ8.out.free 5; have f6 := HZ8.out.free 6; have f7 := HZ8.out.free 7; have f8 := HZ8.out.free 8
    have hne : w.heap.size ≠ w2.heap.size := by omega
    go_wp2_with fail
    refine bodyPost_ret (res_cellOb Tryz.results112 rfl (bk_set9 HZ8.out _ _ _ _ _ _ _ _ _) rfl) rfl ⟨⟨none, 0, 0, A5, pars.length, c5x⟩, rfl, ?_, below_set9 HB8.out (Nat.le_refl _) _ _ _ _ _ _ _ _ _, NewO.none _ _ rfl⟩
    exact ⟨Sl.nil _ _ _ _, (HA8.out.set9 (by omega) _ _ _ _ _ _ _ _ _).sl, Nat.le_refl _, Nat.zero_le _, hn5, hm5⟩
end Go.Proofs.YtmdhlkkekidknaaGreatDoor

namespace Go.Proofs.YtmdhlkkekidknaaGreatDoor
open Go.RowKit

theorem bl_app9 (b : Nat) (w : World) (y0 y1 y2 y3 y4 y5 y6 y7 y8 : Value) (k : Nat) (hk : k ≠ b) : ((((((((((w.setCell ⟨b, 0, none⟩ y0).setCell ⟨b, 1, none⟩ y1).setCell ⟨b, 2, none⟩ y2).setCell ⟨b, 3, none⟩ y3).setCell ⟨b, 4, none⟩ y4).setCell ⟨b, 5, none⟩ y5).setCell ⟨b, 6, none⟩ y6).setCell ⟨b, 7, none⟩ y7).setCell ⟨b, 8, none⟩ y8)).heap[k]? = w.heap[k]? := by
  have h := fun (W : World) (i : Nat) (y : Value) => Below.heap_setCell W ⟨b, i, none⟩ y k hk
  rw [h, h, h, h, h, h, h, h, h]
theorem Sl.ne {w w' : World} {B size n b : Nat} {A : Option Addr} {xs : List Value} (h : Sl w B size A n xs) (hn : ∀ a, 0 < n → A = some a → a.block ≠ b) (hw : ∀ k, k ≠ b → w'.heap[k]? = w.heap[k]?) : Sl w' B size A n xs := by
  refine ⟨h.1, fun h0 => ?_⟩
  obtain ⟨b', off, rfl, hb', hc⟩ := h.2 h0
  have hne := hn _ h0 rfl
  exact ⟨b', off, rfl, hb', fun j u hu => (World.cell?_of_block (hw b' hne)).trans (hc j u hu)⟩
def zrC : Array Value := #[.int .i64 0, .string ⟨#[]⟩, .slice none 0 0, .int .u64 0, .int .u64 0, .slice none 0 0, .string ⟨#[]⟩, .int .i64 0, .string ⟨#[]⟩]
theorem zrC_bool : ∀ (i : Nat) (v : Bool), zrC[i]? ≠ some (.bool v)
  | 0, _ | 1, _ | 2, _ | 3, _ | 4, _ | 5, _ | 6, _ | 7, _ | 8, _ => by simp [zrC]
  | i + 9, _ => by simp [zrC]
theorem zrC_dig : ∀ (i : Nat) (x y : Int), zrC[i]? = some (.int .u64 x) → zrC[i + 1]? = some (.int .u64 y) → x = 0 ∧ y = 0
  | 0, _, _ | 1, _, _ | 2, _, _ | 4, _, _ | 5, _, _ | 6, _, _ | 7, _, _ | 8, _, _ => by simp [zrC]
  | 3, _, _ => by simp [zrC]; omega
  | i + 9, _, _ => by simp [zrC]
theorem ok_pars {o : Ob} (ho : OkO o) : ∀ d ∈ o.pars, d ≠ zD := by
  cases ho.f with
  | blob _ _ c _ => rw [c.pars]; intro d h; cases h
  | tree _ _ c _ => rw [c.pars]; intro d h; cases h
  | commit _ _ _ c => exact c.pars.nz
theorem ObM.zero {w w' : World} {B b : Nat} {t : TypeId} {o : Ob} {s : Osl} (h : ObM w B o s) (ho : OkO o) (hz : Bk w b t zrC) (hw : ∀ k, k ≠ b → w'.heap[k]? = w.heap[k]?) : ObM w' B o s := by
  refine ⟨h.e.ne (b := b) ?_ hw, h.p.ne (b := b) ?_ hw, h.ele, h.emx, h.ple, h.pmx⟩
  · rintro a h0 ha rfl
    obtain ⟨b', off, e, rfl', _, _, _, h1, _⟩ := h.e.en h0
    rw [ha] at rfl'
    cases rfl'
    rw [hz.cell] at h1
    exact zrC_bool _ _ h1
  · rintro a h0 ha rfl
    obtain ⟨b', off, d, rfl', _, hd, h1, h2⟩ := h.p.dg h0
    rw [ha] at rfl'
    cases rfl'
    rw [hz.cell] at h1 h2
    have := zrC_dig _ _ _ h1 h2
    exact ok_pars ho d (List.mem_of_getElem? hd) (by obtain ⟨x, y⟩ := d; obtain ⟨h1, h2⟩ := this; simp only at h1 h2; rw [h1, h2]; rfl)
def zOb : Ob := ⟨0, ⟨#[]⟩, [], zD, [], ⟨#[]⟩, 0, ⟨#[]⟩⟩
def zOs : Osl := ⟨none, 0, 0, none, 0, 0⟩
def GeE (p : List Itm) (d : Dig) (w : World) (e : Ending) (w' : World) : Prop :=
  ((∃ o s, getP p d = some o ∧ OkO o ∧ e = .returned (.tuple #[obV o s, .int .i64 0]) ∧ ObM w' w'.heap.size o s ∧ NewO w' w.heap.size s) ∨ (getP p d = none ∧ e = .returned (.tuple #[obV zOb zOs, .int .i64 8]))) ∧ Below w.heap.size w w'
set_option maxRecDepth 100000 in
set_option maxHeartbeats 4000000 in
theorem pget_any (A : Option Addr) (n c B : Nat) (p : List Itm) (d : Dig) (w : World) (h0 : Sl w B 3 A n (flat itC p)) (hB : B ≤ w.heap.size) (hn : n ≤ 1000000) (hp : PlOk p) :
    Calls Tryz.prog 69 #[.slice A n c, digV d] w (GeE p d w) := by
  have HP := Lib.hid hp
  have HL := Lib.hid (h0.len itC_len (by omega))
  clear hp
  obtain ⟨d1, d2⟩ := d
  obtain ⟨W, hW⟩ : ∃ W, (w.alloc (.cells #[.int .u64 d1, .int .u64 d2] 30)).alloc (.cells #[.int .i64 0, .string ⟨#[]⟩, .slice none 0 0, .int .u64 0, .int .u64 0, .slice none 0 0, .string ⟨#[]⟩, .int .i64 0, .string ⟨#[]⟩] 82) = W := ⟨_, rfl⟩
  have HB0 : Hid (Below w.heap.size w W) := by rw [← hW]; exact ((Below.refl _ w).alloc (Nat.le_refl _) _).alloc (by simp) _
  have HK : Hid (Bk W w.heap.size 30 #[.int .u64 d1, .int .u64 d2]) := by rw [← hW]; exact (Bk.new w _ _).alloc _
  have HZ : Hid (Bk W (w.heap.size + 1) 82 #[.int .i64 0, .string ⟨#[]⟩, .slice none 0 0, .int .u64 0, .int .u64 0, .slice none 0 0, .string ⟨#[]⟩, .int .i64 0, .string ⟨#[]⟩]) := by
    rw [← hW]
    have := Bk.new (w.alloc (.cells #[.int .u64 d1, .int .u64 d2] 30)) 82 #[.int .i64 0, .string ⟨#[]⟩, .slice none 0 0, .int .u64 0, .int .u64 0, .slice none 0 0, .string ⟨#[]⟩, .int .i64 0, .string ⟨#[]⟩]
    rw [World.size_alloc] at this; exact this
  have HC := Lib.hid (pfind_any A n c B p (d1, d2) W (h0.below HB0.out hB) (Nat.le_trans hB HB0.out.size) hn HP.out.asc)
  have H0 := Lib.hid h0
  clear h0
  have zW : w.heap.size + 2 = W.heap.size := by rw [← hW]; simp
  have HW := Lib.hid hW
  clear hW
  unfold BsE at HC
  simp only [digV] at HC ⊢
  obtain ⟨x0, x1, _, _⟩ := HK.out.two
  cases hf : findP p (d1, d2) with
  | none =>
    have HN : Hid (getP p (d1, d2) = none) := getP_none.2 hf
    rw [hf] at HC
    simp only [Option.isSome_none] at HC
    clear hf
    go_enter Tryz.func69, Tryz.ntmps69
    go_wp2_with fail
    rw [HW.out]
    refine HC.out.mono ?_
    rintro e w2 ⟨rfl, hb⟩
    have HZ2 := Lib.hid (HZ.out.below hb (by omega))
    have HB2 : Hid (Below w.heap.size w w2) := HB0.out.trans (hb.mono HB0.out.size)
    obtain ⟨z0, z1, z2, z3, z4, z5, z6, z7, z8⟩ := HZ2.out.nine
    have g0 := HZ2.out.free 0; have g1 := HZ2.out.free 1; have g2 := HZ2.out.free 2; have g3 := HZ2.out.free 3; have g4 := HZ2.out.free 4; have g5 := HZ2.out.free 5; have g6 := HZ2.out.free 6; have g7 := HZ2.out.free 7; have g8 := HZ2.out.free 8
    clear hb HC
    go_wp2_with fail
    refine bodyPost_ret (res_cellOb Tryz.results69 rfl (bk_set9 HZ2.out _ _ _ _ _ _ _ _ _) rfl) rfl ⟨.inr ⟨HN.out, rfl⟩, below_set9 HB2.out (by omega) _ _ _ _ _ _ _ _ _⟩
  | some b =>
    have HM : Hid (((d1, d2), b) ∈ p) := (findP_some HP.out.asc).1 hf
    obtain ⟨o, ho, hbe⟩ := HP.out.enc _ HM.out
    simp only at hbe
    have HG : Hid (getP p (d1, d2) = some o) := (getP_some HP.out).2 ⟨ho, by rw [← hbe]; exact HM.out⟩
    have HO := Lib.hid ho
    have HI : Hid (∃ i, p[atD p (d1, d2)]? = some i ∧ i.2 = b ∧ atD p (d1, d2) < n) := by
      unfold findP at hf
      cases hi : p[atD p (d1, d2)]? with
      | none => rw [hi] at hf; cases hf
      | some i =>
        rw [hi] at hf
        simp only at hf
        split at hf
        · exact ⟨i, rfl, by cases hf; rfl, by rw [← HL.out]; exact (List.getElem?_eq_some_iff.1 hi).1⟩
        · cases hf
    obtain ⟨i, hi, hib, hin⟩ := HI.out
    rw [hf] at HC
    simp only [Option.isSome_some] at HC
    obtain ⟨m, hm⟩ : ∃ m, atD p (d1, d2) = m := ⟨_, rfl⟩
    rw [hm] at HC hi hin
    clear hf ho hm
    go_enter Tryz.func69, Tryz.ntmps69
    go_wp2_with fail
    rw [HW.out]
    refine HC.out.mono ?_
    rintro e w2 ⟨rfl, hb⟩
    have HB2 : Hid (Below w.heap.size w w2) := HB0.out.trans (hb.mono HB0.out.size)
    have HZ2 := Lib.hid (HZ.out.below hb (by omega))
    obtain ⟨bb, off, i', rfl, hbB, hx, y0, y1, y2⟩ := (H0.out.below HB2.out hB).it hin
    rw [hi] at hx
    obtain rfl := Option.some.inj hx
    rw [hib, hbe] at y2
    have HD := Lib.hid (odecode_any o w2 HO.out)
    have zw2 := hb.size
    clear hb HC hi hib hbe hx
    have hmn : (m : Int) < (n : Int) := by omega
    go_wp2_with fail
    refine HD.out.mono ?_
    rintro e w3 ⟨s, rfl, hm3, hb3, hn3⟩
    have HN3 : Hid (NewO w3 w.heap.size s) := hn3.mono HB2.out.size
    have HZ3 := Lib.hid (HZ2.out.below hb3 (by omega))
    have HB3 : Hid (Below w.heap.size w w3) := HB2.out.trans (hb3.mono HB2.out.size)
    have HM3 := Lib.hid hm3
    simp only [obV, obC]
    obtain ⟨z0, z1, z2, z3, z4, z5, z6, z7, z8⟩ := HZ3.out.nine
    have g0 := HZ3.out.free 0; have g1 := HZ3.out.free 1; have g2 := HZ3.out.free 2; have g3 := HZ3.out.free 3; have g4 := HZ3.out.free 4; have g5 := HZ3.out.free 5; have g6 := HZ3.out.free 6; have g7 := HZ3.out.free 7; have g8 := HZ3.out.free 8
    clear hb3 hm3 hn3 HD
    go_wp2_with fail
    refine bodyPost_ret (res_cellOb Tryz.results69 rfl (bk_set9 HZ3.out _ _ _ _ _ _ _ _ _) rfl) rfl ⟨.inl ⟨o, s, HG.out, HO.out, rfl, ?_, ?_⟩, below_set9 HB3.out (by omega) _ _ _ _ _ _ _ _ _⟩
    · have := HM3.out.zero (t := 82) HO.out HZ3.out (fun k hk => bl_app9 _ w3 (.int .i64 o.kind) (.string o.data) (.slice s.eA s.en s.ec) (.int .u64 o.tree.1) (.int .u64 o.tree.2) (.slice s.pA s.pn s.pc) (.string o.auth) (.int .i64 o.time) (.string o.msg) k hk)
      simpa using this
    · have := HN3.out.keep (t := 82) HZ3.out (by decide) (fun k hk => bl_app9 _ w3 (.int .i64 o.kind) (.string o.data) (.slice s.eA s.en s.ec) (.int .u64 o.tree.1) (.int .u64 o.tree.2) (.slice s.pA s.pn s.pc) (.string o.auth) (.int .i64 o.time) (.string o.msg) k hk)
      simpa using this
end Go.Proofs.YtmdhlkkekidknaaGreatDoor

namespace Go.Proofs.YtmdhlkkekidknaaGreatDoor
open Go.RowKit

theorem Sl.dgbox {w : World} {B n b : Nat} {t : TypeId} {A : Option Addr} {q : List Itm} {x y : Value} (h : Sl w B 3 A n (flat itC q)) (hk : Bk w b t #[x, y]) : ∀ a, 0 < n → A = some a → a.block ≠ b := by
  rintro a h0 ha rfl
  obtain ⟨b', off, i, rfl', _, _, _, _, h2⟩ := h.it h0
  rw [ha] at rfl'
  cases rfl'
  rw [hk.cell] at h2
  simp at h2
theorem res_pcp {fn : Func} {r c i : Tmp} (h : fn.results = #[.tmp r, .cell c 30, .tmp i]) {w : World} {a : Array Value} {b : Nat} {x y u v : Value} (hr : a[r]?.getD undef = u) (ha : a[c]?.getD undef = .pointer (some ⟨b, 0, none⟩)) (hk : Bk w b 30 #[x, y]) (hv : a[i]?.getD undef = v) :
    (results fn a).run Tryz.prog w = .ok (.tuple #[u, .agg #[x, y], v]) w := by
  obtain ⟨h0, h1, _, _⟩ := hk.two
  simp [results, h, hr, ha, hv, go_sem, h0, h1]
def PuE (A0 : Option Addr) (c0 : Nat) (p : List Itm) (o : Ob) (w : World) (e : Ending) (w' : World) : Prop :=
  ((∃ q A c, putP p o = some q ∧ e = .returned (.tuple #[.slice A q.length c, digV (dgO o), .int .i64 0]) ∧ Sl w' w'.heap.size 3 A q.length (flat itC q) ∧ q.length ≤ c ∧ c ≤ maxLen ∧ Ply w' w.heap.size A0 c0 p A c q) ∨ (putP p o = none ∧ e = .returned (.tuple #[.slice none 0 0, digV zD, .int .i64 16]))) ∧ Below w.heap.size w w'
set_option maxRecDepth 100000 in
set_option maxHeartbeats 4000000 in
theorem pput_any (A : Option Addr) (n c B : Nat) (p : List Itm) (o : Ob) (s : Osl) (w : World) (h0 : Sl w B 3 A n (flat itC p)) (hm : ObM w B o s) (hB : B ≤ w.heap.size) (hnc : n ≤ c) (hcm : c ≤ maxLen) (hn : n ≤ 900000) (ha : AscI p) (ho : OkO o) :
    Calls Tryz.prog 93 #[.slice A n c, obV o s] w (PuE A c p o w) := by
  have HO := Lib.hid ho; have HAS := Lib.hid ha; have HCM := Lib.hid hcm; have HNC := Lib.hid hnc; have HNN := Lib.hid hn
  obtain ⟨W, hW⟩ : ∃ W, (w.alloc (.cells (obC o s) 82)).alloc (.cells #[.int .u64 0, .int .u64 0] 30) = W := ⟨_, rfl⟩
  have HB0 : Hid (Below w.heap.size w W) := by rw [← hW]; exact ((Below.refl _ w).alloc (Nat.le_refl _) _).alloc (by simp) _
  have HK : Hid (Bk W w.heap.size 82 (obC o s)) := by rw [← hW]; exact (Bk.new w _ _).alloc _
  have HD : Hid (Bk W (w.heap.size + 1) 30 #[.int .u64 0, .int .u64 0]) := by
    rw [← hW]
    have := Bk.new (w.alloc (.cells (obC o s) 82)) 30 #[.int .u64 0, .int .u64 0]
    rw [World.size_alloc] at this; exact this
  have zW : w.heap.size + 2 = W.heap.size := by rw [← hW]; simp
  have HE := Lib.hid (oencode_any o s B W (hm.below HB0.out hB) (by omega) ho)
  have H0 := Lib.hid h0
  have hsz : (ofL (encO o)).size ≤ maxLen := by rw [size_ofL]; have := ho.len; unfold maxLen; omega
  have HOF := Lib.hid (fun w => of_any (ofL (encO o)) w hsz)
  have HDG : Hid (ofB (toL (ofL (encO o))) = dgO o) := by show _ = _; rw [toL_ofL]; rfl
  unfold OfEnd at HOF
  rw [HDG.out] at HOF
  have HPP : Hid (putP p o = insP p (dgO o, ofL (encO o))) := rfl
  unfold OecEnd at HE
  simp only [obV, obC] at HE hW HK ⊢
  obtain ⟨sb, hsb⟩ : ∃ sb, ofL (encO o) = sb := ⟨_, rfl⟩
  rw [hsb] at HE HOF HPP
  obtain ⟨⟨d1, d2⟩, hdd⟩ : ∃ d, dgO o = d := ⟨_, rfl⟩
  unfold PuE
  rw [hdd] at HOF HPP ⊢
  rw [HPP.out]
  simp only [digV] at HOF ⊢
  obtain ⟨c0, c1, c2, c3, c4, c5, c6, c7, c8⟩ := HK.out.nine
  have HW := Lib.hid hW
  clear h0 hm ho ha hcm hn hsb hdd HDG hsz hW hnc
  go_enter Tryz.func93, Tryz.ntmps93
  go_wp2_with fail
  rw [HW.out]
  go_wp2_with fail
  refine HE.out.mono ?_
  rintro e w2 ⟨rfl, hb⟩
  have HB2 : Hid (Below w.heap.size w w2) := HB0.out.trans (hb.mono HB0.out.size)
  have HD2 := Lib.hid (HD.out.below hb (by omega))
  have z2 : w.heap.size + 2 ≤ w2.heap.size := by have := hb.size; omega
  clear hb HE c0 c1 c2 c3 c4 c5 c6 c7 c8
  go_wp2_with fail
  refine (HOF.out _).mono ?_
  rintro e w3 ⟨rfl, hb⟩
  have HB3 : Hid (Below w.heap.size w w3) := HB2.out.trans (hb.mono HB2.out.size)
  have HD3 := Lib.hid (HD2.out.below hb (by omega))
  have z3 : w.heap.size + 2 ≤ w3.heap.size := by have := hb.size; omega
  obtain ⟨W3, hW3⟩ : ∃ W, w3.alloc (.cells #[.int .u64 d1, .int .u64 d2] 30) = W := ⟨_, rfl⟩
  have HBW : Hid (Below w3.heap.size w3 W3) := by rw [← hW3]; exact (Below.refl _ w3).alloc (Nat.le_refl _) _
  have HG3 : Hid (Bk W3 w3.heap.size 30 #[.int .u64 d1, .int .u64 d2]) := by rw [← hW3]; exact Bk.new w3 _ _
  have HD3' := Lib.hid (HD3.out.below HBW.out (by omega))
  have HB3' : Hid (Below w.heap.size w W3) := HB3.out.trans (HBW.out.mono HB3.out.size)
  have zW3 : w3.heap.size < W3.heap.size := HG3.out.lt
  have HI := Lib.hid (pinsert_any A n c B p ((d1, d2), sb) W3 (H0.out.below HB3'.out hB) (by omega) HNC.out HCM.out HNN.out HAS.out)
  unfold InpE at HI
  simp only [itV] at HI
  obtain ⟨x0, x1, _, _⟩ := HG3.out.two
  clear hb
  go_wp2_with fail
  refine HI.out.mono ?_
  rintro e w4 ⟨hq, hb⟩
  have HB4 : Hid (Below w.heap.size w w4) := HB3'.out.trans (hb.mono HB3'.out.size)
  have HD4 := Lib.hid (HD3'.out.below hb (by omega))
  have HG4 := Lib.hid (HG3.out.below hb zW3)
  have z4 : w3.heap.size < w4.heap.size := Nat.lt_of_lt_of_le zW3 hb.size
  have g0 := HD4.out.free 0; have g1 := HD4.out.free 1
  obtain ⟨y0, y1, _, _⟩ := HD4.out.two
  obtain ⟨x0, x1, _, _⟩ := HG4.out.two
  clear hb HI hW3
  rcases hq with ⟨q, A', c', h1, rfl, h2, h3, h4, h5⟩ | ⟨h1, rfl⟩
  · have HQ := Lib.hid h1; have HS := Lib.hid h2; have H3 := Lib.hid h3; have H4 := Lib.hid h4; have H5 := Lib.hid h5
    clear h1 h2 h3 h4 h5
    go_wp2_with fail
    go_region
    go_wp2_with fail
    refine bodyPost_ret (res_pcp Tryz.results93 rfl rfl ((HD4.out.set2 (.int .u64 d1) (.int .u64 d2)).drew) rfl) rfl ⟨.inl ⟨q, A', c', HQ.out, rfl, ?_, H3.out, H4.out, ?_⟩, (below_set2 HB4.out (by omega) _ _).drew⟩
    · have := HS.out.ne (b := w.heap.size + 1) (HS.out.dgbox HD4.out) (fun k hk => (Below.heap_setCell (w4.setCell ⟨w.heap.size + 1, 0, none⟩ (.int .u64 d1)) ⟨w.heap.size + 1, 1, none⟩ (.int .u64 d2) k hk).trans (Below.heap_setCell w4 ⟨w.heap.size + 1, 0, none⟩ (.int .u64 d1) k hk))
      simpa using this.drew
    · rcases H5.out with h | h
      · exact .inl h
      · exact .inr (ownsRow_bk (ownsRow_bk (ownsRow_low h (by omega)) HD4.out (by decide) 0 _) (HD4.out.set 0 _) (by decide) 1 _).drew
  · have HQ := Lib.hid h1
    clear h1
    go_wp2_with fail
    refine bodyPost_ret (res_pcp Tryz.results93 rfl rfl (HD4.out.set2 _ _) rfl) rfl ⟨.inr ⟨HQ.out, rfl⟩, below_set2 HB4.out (by omega) _ _⟩
end Go.Proofs.YtmdhlkkekidknaaGreatDoor

namespace Go.Proofs.YtmdhlkkekidknaaGreatDoor
open Go.RowKit

set_option maxRecDepth 100000 in
set_option maxHeartbeats 2000000 in
theorem refGetInt_any (s : ByteArray) (w : World) : Calls Tryz.prog 173 #[.string s] w (RetI (getI (toL s)) w) := by
  have HR : Hid (∀ r, getI (toL s) = r → ∀ e w', RetI r w e w' → RetI (getI (toL s)) w e w') := fun r h e w' hh => by rw [h]; exact hh
  have H0 : Hid (getI (toL s) = gi 6 0 0 1 ((toL s).drop 0)) := rfl
  go_enter Tryz.func173, Tryz.ntmps173
  go_wp2
  go_loop [5, 6, 7] (fun n u i => ∃ k a b : Nat, k ≤ 6 ∧ k ≤ s.size ∧ i = .int .i64 k ∧ n = .int .i64 a ∧ u = .int .i64 b ∧ 1 ≤ b ∧ b ≤ 128 ^ 6 ∧ Hid (b = 128 ^ k) ∧ a < b ∧ Hid (getI (toL s) = gi (6 - k) k a b ((toL s).drop k))) (fun _ _ i => 6 - (intOf i).toNat)
  case atStart => exact ⟨0, 0, 1, by omega, by omega, rfl, rfl, rfl, by omega, by omega, rfl, by omega, H0.out⟩
  case round =>
    obtain ⟨k, a, b, hk, hks, rfl, rfl, rfl, hb1, hb2, hb, hab, hg⟩ := hrel
    by_cases hlt : k < 6
    · have hf : Hid (6 - k = 5 - k + 1) := by show _ = _; omega
      by_cases hsz : k < s.size
      · have hsz' : ((k : Int) == (s.size : Int)) = false := by rw [beq_eq_false_iff_ne]; omega
        have hbn : Hid (128 * b = 128 ^ (k + 1)) := by show _ = _; rw [hb.out, Nat.pow_succ, Nat.mul_comm]
        have hbp : 128 * b ≤ 128 ^ 6 := by rw [hbn.out]; exact Nat.pow_le_pow_right (by omega) (by omega)
        have hst : Hid (getI (toL s) = if s[k].toNat < 128 then (if (s[k].toNat = 0 ∧ 0 < k) ∨ 1099511627776 < a + s[k].toNat * b then (0, 0, 13) else (a + s[k].toNat * b, k + 1, 0)) else gi (5 - k) (k + 1) (a + (s[k].toNat - 128) * b) (b * 128) ((toL s).drop (k + 1))) := by
          show _ = _
          rw [hg.out, hf.out, drop_byte hsz, gi]
        have hd : s[k].toNat < 256 := s[k].toNat_lt
        generalize hdd : s[k].toNat = d at *
        have hdi : (s[k].toNat : Int) = (d : Int) := by rw [hdd]
        clear hdd
        by_cases h128 : d < 128
        · obtain ⟨p, hp⟩ : ∃ p, d * b = p := ⟨_, rfl⟩
          have hpb : p ≤ 128 * b := by rw [← hp]; exact Nat.mul_le_mul_right _ (by omega)
          have hpi : (b : Int) * (d : Int) = (p : Int) := by rw [← hp, Int.natCast_mul, Int.mul_comm]
          have hmd : (d : Int) % 128 = (d : Int) := by omega
          have h128i : (d : Int) < 128 := by omega
          rw [hp, if_pos h128] at hst
          clear hp
          by_cases hmx : 1099511627776 < a + p
          · have hmxi : (1099511627776 : Int) < (a : Int) + (p : Int) := by omega
            have hfin : Hid (getI (toL s) = (0, 0, 13)) := by show _ = _; rw [hst.out, if_pos (.inr hmx)]
            clear hst hg
            by_cases hd0 : d = 0
            · have hd0i : ((d : Int) == 0) = true := by rw [beq_iff_eq]; omega
              clear hd0
              by_cases hk0 : (0 : Int) < (k : Int)
              all_goals
                go_wp2
                go_ret3
                exact HR.out _ hfin.out _ _ ⟨rfl, rfl⟩
            · have hd0i : ((d : Int) == 0) = false := by rw [beq_eq_false_iff_ne]; omega
              clear hd0
              go_wp2
              go_ret3
              exact HR.out _ hfin.out _ _ ⟨rfl, rfl⟩
          · have hmxi : ¬ (1099511627776 : Int) < (a : Int) + (p : Int) := by omega
            by_cases hd0 : d = 0
            · have hd0i : ((d : Int) == 0) = true := by rw [beq_iff_eq]; omega
              by_cases hk0 : 0 < k
              · have hk0i : (0 : Int) < (k : Int) := by omega
                have hfin : Hid (getI (toL s) = (0, 0, 13)) := by show _ = _; rw [hst.out, if_pos (.inl ⟨hd0, hk0⟩)]
                clear hst hg hd0
                go_wp2
                go_ret3
                exact HR.out _ hfin.out _ _ ⟨rfl, rfl⟩
              · have hk0i : ¬ (0 : Int) < (k : Int) := by omega
                have hfin : Hid (getI (toL s) = (a + p, k + 1, 0)) := by show _ = _; rw [hst.out, if_neg (by omega)]
                clear hst hg hd0
                go_wp2
                go_ret3
                exact HR.out _ hfin.out _ _ ⟨rfl, rfl⟩
            · have hd0i : ((d : Int) == 0) = false := by rw [beq_eq_false_iff_ne]; omega
              have hfin : Hid (getI (toL s) = (a + p, k + 1, 0)) := by show _ = _; rw [hst.out, if_neg (by omega)]
              clear hst hg hd0
              by_cases hk0 : (0 : Int) < (k : Int)
              all_goals
                go_wp2
                go_ret3
                exact HR.out _ hfin.out _ _ ⟨rfl, rfl⟩
        · obtain ⟨p, hp⟩ : ∃ p, (d - 128) * b = p := ⟨_, rfl⟩
          have hpb : p + b ≤ 128 * b := by
            have : (d - 128 + 1) * b ≤ 128 * b := Nat.mul_le_mul_right _ (by omega)
            rw [Nat.add_mul, hp] at this; omega
          have hpi : (b : Int) * ((d : Int) - 128) = (p : Int) := by
            rw [← hp, Int.natCast_mul, Int.ofNat_sub (by omega), Int.mul_comm]; rfl
          have hmd : (d : Int) % 128 = (d : Int) - 128 := by omega
          have h128i : ¬ (d : Int) < 128 := by omega
          rw [hp, if_neg h128] at hst
          clear hp
          go_wp2
          go_round
          case rel => exact ⟨k + 1, a + p, b * 128, by omega, by omega, by go_num, by go_num, by go_num, by omega, by omega, by show _ = _; rw [Nat.mul_comm]; exact hbn.out, by omega, by show _ = _; rw [hst.out, show 6 - (k + 1) = 5 - k by omega]⟩
          case measure => simp [intOf]; omega
      · have hsz' : ((k : Int) == (s.size : Int)) = true := by rw [beq_iff_eq]; omega
        have hfin : Hid (getI (toL s) = (0, 0, 12)) := by
          show _ = _
          rw [hg.out, hf.out, List.drop_of_length_le (by rw [← size_toL]; omega), gi]
        clear hg
        go_wp2
        go_ret3
        exact HR.out _ hfin.out _ _ ⟨rfl, rfl⟩
    · have hfin : Hid (getI (toL s) = (0, 0, 13)) := by
        show _ = _
        rw [hg.out, show 6 - k = 0 by omega, gi]
      clear hg
      go_wp2
      go_ret3
      exact HR.out _ hfin.out _ _ ⟨rfl, rfl⟩

set_option maxRecDepth 100000 in
set_option maxHeartbeats 2000000 in
theorem refGetText_any (s : ByteArray) (hs : s.size ≤ maxLen) (w : World) : Calls Tryz.prog 174 #[.string s] w (RetT (getT (toL s)) w) := by
  unfold maxLen at hs
  have HR : Hid (∀ r, getT (toL s) = r → ∀ e w', RetT r w e w' → RetT (getT (toL s)) w e w') := fun r h e w' hh => by rw [h]; exact hh
  have HD : Hid (getT (toL s) = if (getI (toL s)).2.2 ≠ 0 then ([], 0, (getI (toL s)).2.2) else if 65536 < (getI (toL s)).1 then ([], 0, 13) else if (toL s).length < (getI (toL s)).2.1 + (getI (toL s)).1 then ([], 0, 12) else (((toL s).drop (getI (toL s)).2.1).take (getI (toL s)).1, (getI (toL s)).2.1 + (getI (toL s)).1, 0)) := rfl
  rw [← size_toL] at HD
  have hle := getI_le (toL s)
  rw [← size_toL] at hle
  have hmx := getI_max (toL s)
  go_enter Tryz.func174, Tryz.ntmps174
  go_wp2_with fail
  refine (refGetInt_any s _).mono ?_
  generalize getI (toL s) = r at *
  obtain ⟨n, k, e⟩ := r
  rintro e' w' ⟨rfl, rfl⟩
  simp only at hle hmx HD ⊢
  by_cases he : e = 0
  · subst he
    by_cases hn : 65536 < n
    · have hni : (65536 : Int) < (n : Int) := by omega
      have hfin : Hid (getT (toL s) = ([], 0, 13)) := by show _ = _; rw [HD.out, if_neg (by simp), if_pos hn]
      clear HD
      go_wp2
      go_ret3
      exact HR.out _ hfin.out _ _ ⟨rfl, rfl⟩
    · have hni : ¬ (65536 : Int) < (n : Int) := by omega
      by_cases hl : s.size < k + n
      · have hli : (s.size : Int) - (k : Int) < (n : Int) := by omega
        have hfin : Hid (getT (toL s) = ([], 0, 12)) := by show _ = _; rw [HD.out, if_neg (by simp), if_neg hn, if_pos hl]
        clear HD
        go_wp2
        go_ret3
        exact HR.out _ hfin.out _ _ ⟨rfl, rfl⟩
      · have hli : ¬ (s.size : Int) - (k : Int) < (n : Int) := by omega
        have hfin : Hid (getT (toL s) = (((toL s).drop k).take n, k + n, 0)) := by show _ = _; rw [HD.out, if_neg (by simp), if_neg hn, if_neg hl]
        have HX := Lib.hid (extract_ofL s k n)
        clear HD
        go_wp2
        go_ret3
        exact HR.out _ hfin.out _ _ ⟨by rw [← HX.out]; rfl, rfl⟩
  · have hne : (e != 0) = true := by rw [bne_iff_ne]; exact he
    have hfin : Hid (getT (toL s) = ([], 0, e)) := by show _ = _; rw [HD.out, if_pos he]
    clear HD he
    go_wp2
    go_ret3
    exact HR.out _ hfin.out _ _ ⟨rfl, rfl⟩
end Go.Proofs.YtmdhlkkekidknaaGreatDoor
