/-
  Lemmas: The reference's Parse. The reference's Load: add. The reference's Load: targets. The reference's Visible. The reference's Load: proper.
-/
import Derived.Test.YtddlohbhchjjhaaGreatDoorU14

namespace Go.Proofs.YtddlohbhchjjhaaGreatDoor
open Go.RowKit Go.Shelf

theorem kstr_set {W : World} {b i : Nat} {t : TypeId} {cs : Array Value} (hk : Bk W b t cs) (ht : t ≠ 9) (u : Value) : KStr W (W.setCell ⟨b, i, none⟩ u) := fun k cur h => by
  refine Below.heap_setCell _ _ _ _ (fun e => ?_)
  have e' : k = b := e
  subst e'
  unfold Bk at hk
  rw [hk] at h
  injection h with h
  injection h with _ h3
  exact ht h3
theorem bk_kept {w w' : World} {b : Nat} {e e2 : TypeId} {cs : Array Value} (h : Bk w b e cs) (hk : OthersKept e2 w w') (hne : e ≠ e2) : Bk w' b e cs := by
  have h1 : w.ownsRow b e cs.size (.slice (some ⟨b, 0, none⟩) 1 1) 1 cs.toList :=
    ⟨by simp, .inr ⟨b, 1, cs, rfl, Nat.le_refl _, h, Nat.le_refl _, by unfold maxLen; omega, by simp, by rw [Nat.one_mul]; exact List.take_of_length_le (by simp)⟩⟩
  rcases (hk _ _ _ _ _ _ hne h1).2 with ⟨h2, _⟩ | ⟨g, cap, cur, hv, _, hc, _, _, hs, ht⟩
  · cases h2
  · injection hv with hv1 _ hv3
    injection hv1 with hv4
    injection hv4 with hv5
    subst hv5; subst hv3
    have : cur = cs := by
      apply Array.toList_inj.1
      rw [← ht, Nat.one_mul, List.take_of_length_le (by simp at hs ⊢; omega)]
    subst this
    exact hc
theorem resultsPar {w : World} {a : Array Value} {x y z : Value} (hx : a[2]?.getD undef = x) (hy : a[3]?.getD undef = y) (hz : a[4]?.getD undef = z) : (results Tryz.f100 a).run Tryz.prog w = .ok (.tuple #[x, y, z]) w := by
  simp [results, Tryz.results100, hx, hy, hz, go_sem]
def RpI (ws : List Wd) (cs : List Ct) (t : Rt) : Prop := (t.2 = false ∧ PreP ws cs t.1) ∨ (t.2 = true ∧ Prs ws (.inr t.1))
theorem RpI.step {ws us : List Wd} {cs : List Ct} (h : PreP ws cs us) (h0 : us ≠ []) : RpI ws (cs ++ [(rlR us).1]) (rlR us).2 ∧ ((rlR us).2.2 = false → (rlR us).2.1.length < us.length) := by
  rcases rlR_spec us with ⟨h1, h2⟩ | ⟨k, hk, h1, h2, h3⟩
  · rw [h2]
    refine ⟨.inl ⟨rfl, h.step h0 h1⟩, fun _ => ?_⟩
    exact stW_lt h0 (h1 0 (by omega)) 4
  · rw [h3]
    exact ⟨.inr ⟨rfl, h.2 _ (.fail h0 hk h1 h2)⟩, fun e => by cases e⟩
theorem rlR_suf (us : List Wd) : (rlR us).2.1 <:+ us := by
  unfold rlR
  refine (nxR_suf _ _).trans ((visR_suf _).trans ((depR_suf _).trans ?_))
  unfold t2R t1R
  exact (nxR_suf _ _).trans (nxR_suf _ _)
theorem lsR_mem (v st : ByteArray → Bool) : ∀ (ws : List Wd), ∀ x ∈ (lsR v st ws).1, x = ⟨#[]⟩ ∨ ∃ y ∈ ws, y.1 = x
  | [], x, h => by simp [lsR] at h; exact .inl h
  | y :: ws, x, h => by
    simp only [lsR] at h
    split at h
    · split at h
      · simp at h; exact .inr ⟨y, by simp, h.symm⟩
      · rcases List.mem_cons.1 h with h | h
        · exact .inr ⟨y, by simp, h.symm⟩
        · rcases lsR_mem v st ws x h with h | ⟨z, hz, e⟩
          · exact .inl h
          · exact .inr ⟨z, by simp [hz], e⟩
    · simp at h; exact .inr ⟨y, by simp, h.symm⟩
theorem rlR_sizes {us : List Wd} {m : Nat} (h : ∀ x ∈ us, x.1.size ≤ m) : (rlR us).1.2.1.size ≤ m ∧ (∀ d ∈ (rlR us).1.2.2.1, d.size ≤ m) ∧ ∀ d ∈ (rlR us).1.2.2.2, d.size ≤ m := by
  have h1 : ∀ x ∈ (t1R us).1, x.1.size ≤ m := fun x hx => h x ((nxR_suf (us, false) _).subset hx)
  have h2 : ∀ x ∈ (t2R us).1, x.1.size ≤ m := fun x hx => h1 x ((nxR_suf (t1R us) _).subset hx)
  have key : ∀ (v st : ByteArray → Bool) (ws : List Wd), (∀ x ∈ ws, x.1.size ≤ m) → ∀ d ∈ (lsR v st ws).1, d.size ≤ m := fun v st ws hw d hd => by
    rcases lsR_mem v st ws d hd with rfl | ⟨y, hy, rfl⟩
    · exact Nat.zero_le _
    · exact hw y hy
  refine ⟨wdR_size h1, fun d hd => ?_, fun d hd => ?_⟩
  · have hd' : d ∈ (depR (t2R us)).1 := hd
    unfold depR at hd'
    split at hd'
    · exact key _ _ _ (fun x hx => h2 x (List.mem_of_mem_tail hx)) d hd'
    · cases hd'
  · have hd' : d ∈ (visR (depR (t2R us)).2).1 := hd
    unfold visR at hd'
    split at hd'
    · exact key _ _ _ (fun x hx => h2 x ((depR_suf _).subset (List.mem_of_mem_tail hx))) d hd'
    · cases hd'

set_option maxRecDepth 100000 in
set_option maxHeartbeats 16000000 in
theorem rparse_any (s : ByteArray) (w : World) (hs : s.size ≤ maxLen) : Calls Tryz.prog 100 #[.string s] w (ParEnd s w) := by
  unfold maxLen at hs
  go_enter Tryz.func100, Tryz.ntmps100
  by_cases hlong : 65536 < s.size
  · have hz : (65536 : Int) < (s.size : Int) := by omega
    have HE : Hid (ParR s [] 0 4) := .inl ⟨hlong, rfl, rfl, rfl⟩
    go_wp2_with fail
    exact bodyPost_ret (resultsPar rfl rfl rfl) rfl ⟨_, 0, 0, 0, 4, [], rfl, Sl.nil _ _ _ _, (fun t h => by cases h), Nat.le_refl _, Nat.zero_le _, HE.out, (Below.refl _ w).alloc (Nat.le_refl _) _⟩
  have hz : ¬ (65536 : Int) < (s.size : Int) := by omega
  have hs6 : s.size ≤ 65536 := by omega
  obtain ⟨i0, hi, hz0, hz1', hz2'⟩ := info_parts infoRule'
  have Hi := Lib.hid hi; have Hz0 := Lib.hid hz0; have Hz1 := Lib.hid hz1'; have Hz2 := Lib.hid hz2'
  clear hi hz0 hz1' hz2'
  obtain ⟨W0, hW0⟩ : ∃ W0, w.alloc (.cells #[] 60) = W0 := ⟨_, rfl⟩
  have HB0 : Hid (Below w.heap.size w W0) := by rw [← hW0]; exact (Below.refl _ w).alloc (Nat.le_refl _) _
  have HWD := Lib.hid (words38_any s W0 hs6)
  go_wp2_with fail
  refine HWD.out.mono ?_
  rintro e w1 ⟨A1, n1, c1, ws, rfl, hsl, hnc, hcm, hwf, hns, hsz, hb1⟩
  have HWF := Lib.hid hwf; have HSZ := Lib.hid hsz; have HS1 := Lib.hid hsl
  have HB1 : Hid (Below w.heap.size w w1) := HB0.out.trans (hb1.mono HB0.out.size)
  have hln := hsl.len wdC_len (by omega)
  obtain ⟨W2, hW2⟩ : ∃ W2, w1.alloc (.cells #[.slice A1 n1 c1, .bool false] 181) = W2 := ⟨_, rfl⟩
  have HB12 : Hid (Below w1.heap.size w1 W2) := by rw [← hW2]; exact (Below.refl _ w1).alloc (Nat.le_refl _) _
  have HK2 : Hid (Bk W2 w1.heap.size 181 #[.slice A1 n1 c1, .bool false]) := by rw [← hW2]; exact Bk.new w1 _ _
  have zW2 : W2.heap.size = w1.heap.size + 1 := by rw [← hW2]; simp
  have HA2 : Hid (Apd W2 (w1.heap.size + 1) 60 4 (some ⟨w.heap.size, 0, none⟩) 0 0 (flat rlC [])) := .inr ⟨rfl, rfl, rfl⟩
  have HLN := Lib.hid hln
  have HW2 := Lib.hid hW2
  clear hsl hwf hsz hb1 HWD hln hW0 hW2
  go_wp2_with fail
  rw [HW2.out]
  go_loopw [5] (fun o wr => ∃ (A5 : Option Addr) (m c5 : Nat) (rs : List Tg) (A2 : Option Addr) (n2 c2 : Nat) (us : List Wd) (bad : Bool), o = .slice A5 m c5 ∧ m ≤ c5 ∧ c5 ≤ maxLen ∧ Hid (Apd wr (w1.heap.size + 1) 60 4 A5 m c5 (flat rlC rs)) ∧ Hid (∀ r ∈ rs, TgX wr 0 r ∧ r.lab.size ≤ 65536) ∧ Hid (Bk wr w1.heap.size 181 #[.slice A2 n2 c2, .bool bad]) ∧ Hid (Sl wr w1.heap.size 2 A2 n2 (flat wdC us)) ∧ n2 ≤ c2 ∧ c2 ≤ maxLen ∧ Hid (us <:+ ws) ∧ Hid (RpI ws (rs.map ct) (us, bad)) ∧ (bad = false → m + us.length ≤ n1) ∧ m ≤ n1 + 1 ∧ Hid (Below w1.heap.size w1 wr) ∧ w1.heap.size + 1 ≤ wr.heap.size) (fun o _ => n1 + 2 - lenV o)
  case atStart => exact ⟨_, 0, 0, [], A1, n1, c1, ws, false, rfl, Nat.le_refl _, Nat.zero_le _, HA2.out, (fun r h => by cases h), HK2.out, HS1.out.below HB12.out (Nat.le_refl _), hnc, hcm, List.suffix_refl _, .inl ⟨rfl, PreP.start ws⟩, (fun _ => by rw [HLN.out]; omega), by omega, HB12.out, by omega⟩
  case round =>
    obtain ⟨A5, m, c5, rs, A2, n2, c2, us, bad, rfl, hmc, hcm5, hA, hX, hK, hS, hn2, hc2, hSf, hI, hmu, hmn, hBel, hzr⟩ := hrel
    have hlu := hS.out.len wdC_len (by omega)
    have hlz : n2 ≤ n1 := by have := hSf.out.length_le; have := HLN.out; omega
    have p0 := hK.out.cell 0; have p1 := hK.out.cell 1
    simp at p0 p1
    have HBw : Hid (Below w.heap.size w wr) := HB1.out.trans (hBel.out.mono HB1.out.size)
    by_cases hgo : bad = false ∧ 0 < n2
    · obtain ⟨rfl, hpos⟩ := hgo
      have hpz : (0 : Int) < (n2 : Int) := by omega
      have hne : us ≠ [] := fun e => by rw [e] at hlu; simp at hlu; omega
      have hPre : PreP ws (rs.map ct) us := by
        rcases hI.out with ⟨_, h⟩ | ⟨h, _⟩
        · exact h
        · cases h
      have HST := Lib.hid (RpI.step hPre hne)
      have hszu : ∀ x ∈ us, x.1.size ≤ 65536 := fun x hx => by have := HSZ.out x (hSf.out.subset hx); omega
      have HRZ := Lib.hid (rlR_sizes hszu)
      have HTR := Lib.hid (trule_any A2 n2 c2 w1.heap.size us wr hS.out (by omega) hn2 hc2 (fun x hx => by have := hszu x hx; omega) (by omega))
      have hmu1 : m + us.length ≤ n1 := by first | exact hmu rfl | exact hmu trivial
      clear hPre hne hszu hI hmu
      go_wp2_with fail
      refine HTR.out.mono ?_
      rintro e w3 ⟨dA, dn, dc, vA, vn, vc, v, rfl, hd, hv, ⟨A3, n3, c3, rfl, hs3, hn3, hc3⟩, hb3⟩
      have hb3s := hb3.size
      have HB3 : Hid (Below w1.heap.size w1 w3) := hBel.out.trans (hb3.mono (by omega))
      have HX3 : Hid (∀ r ∈ rs, TgX w3 0 r ∧ r.lab.size ≤ 65536) := fun r hr => ⟨(hX.out r hr).1.kept (KStr.of_below hb3), (hX.out r hr).2⟩
      have HA3 := Lib.hid (hA.out.below hb3)
      have HK3 := Lib.hid (hK.out.below hb3 (by omega))
      have HD3 : Hid (w3.ownsRow 1 9 1 (.slice dA dn dc) dn (strs (rlR us).1.2.2.1)) := own_more hd (by omega)
      have HV3 : Hid (w3.ownsRow 1 9 1 (.slice vA vn vc) vn (strs (rlR us).1.2.2.2)) := own_more hv (by omega)
      have HS3 := Lib.hid hs3
      obtain ⟨kd, nm, dl, vl, hrl⟩ : ∃ kd nm dl vl, (rlR us).1 = (kd, nm, dl, vl) := ⟨_, _, _, _, rfl⟩
      rw [hrl] at HD3 HV3 HRZ HST
      simp only [hrl]
      obtain ⟨⟨us2, bad2⟩, hrt⟩ : ∃ t : Rt, (rlR us).2 = t := ⟨_, rfl⟩
      rw [hrt] at HS3 HST
      simp only [hrt]
      have HSF2 : Hid (us2 <:+ ws) := by
        have := rlR_suf us
        rw [hrt] at this
        exact this.trans hSf.out
      obtain ⟨W4, hW4⟩ : ∃ W4, (w3.alloc (.cells #[.int .i64 0, .string ⟨#[]⟩, .slice none 0 0, .slice none 0 0] 60)).alloc (.cells #[.slice none 0 0, .bool false] 181) = W4 := ⟨_, rfl⟩
      have hb34 : Below w3.heap.size w3 W4 := by rw [← hW4]; exact ((Below.refl _ w3).alloc (Nat.le_refl _) _).alloc (by simp) _
      have zW4 : W4.heap.size = w3.heap.size + 2 := by rw [← hW4]; simp
      have HQ4 : Hid (Bk W4 w3.heap.size 60 #[.int .i64 0, .string ⟨#[]⟩, .slice none 0 0, .slice none 0 0]) := by rw [← hW4]; exact (Bk.new w3 _ _).alloc _
      have HP4 : Hid (Bk W4 (w3.heap.size + 1) 181 #[.slice none 0 0, .bool false]) := by
        rw [← hW4]; have := Bk.new (w3.alloc (.cells #[.int .i64 0, .string ⟨#[]⟩, .slice none 0 0, .slice none 0 0] 60)) 181 #[.slice none 0 0, .bool false]; rwa [World.size_alloc] at this
      have q0 := HQ4.out.cell 0; have q1 := HQ4.out.cell 1; have q2 := HQ4.out.cell 2; have q3 := HQ4.out.cell 3
      have g0 := HQ4.out.free 0; have g1 := HQ4.out.free 1; have g2 := HQ4.out.free 2; have g3 := HQ4.out.free 3
      have x0 := HP4.out.cell 0; have x1 := HP4.out.cell 1
      have h0 := HP4.out.free 0; have h1 := HP4.out.free 1
      simp at q0 q1 q2 q3 x0 x1
      clear hd hv hs3 hrl hrt HTR p0 p1 hb3
      go_wp2_with (at_builtin; refine halt_app (.tmp 32) (.tmp 34) 58 rfl ?_)
      refine unhalt ?_
      obtain ⟨W5, hW5⟩ : ∃ W5, (((((W4.setCell ⟨w3.heap.size, 0, none⟩ (.int .i64 kd)).setCell ⟨w3.heap.size, 1, none⟩ (.string nm)).setCell ⟨w3.heap.size, 2, none⟩ (.slice dA dn dc)).setCell ⟨w3.heap.size, 3, none⟩ (.slice vA vn vc)).setCell ⟨w3.heap.size + 1, 0, none⟩ (.slice A3 n3 c3)).setCell ⟨w3.heap.size + 1, 1, none⟩ (.bool bad2) = W5 := ⟨_, rfl⟩
      rw [hW5]
      have hb35 : Below w3.heap.size w3 W5 := by rw [← hW5]; exact below_set2 (below_all4 hb34 (Nat.le_refl _) _ _ _ _) (Nat.le_succ _) _ _
      have HP5 : Hid (Bk W5 (w3.heap.size + 1) 181 #[.slice A3 n3 c3, .bool bad2]) := by
        rw [← hW5]
        exact ((((HP4.out.far (by show w3.heap.size + 1 ≠ w3.heap.size; omega) _).far (by show w3.heap.size + 1 ≠ w3.heap.size; omega) _).far (by show w3.heap.size + 1 ≠ w3.heap.size; omega) _).far (by show w3.heap.size + 1 ≠ w3.heap.size; omega) _).set2 _ _
      have zW5 : W5.heap.size = w3.heap.size + 2 := by rw [← hW5, set_size2, set_size2, set_size2, set_size2, set_size2, set_size2]; exact zW4
      have HA5 := Lib.hid (HA3.out.below hb35)
      have HK5 := Lib.hid (HK3.out.below hb35 (by omega))
      have HX5 : Hid (∀ r ∈ rs, TgX W5 0 r ∧ r.lab.size ≤ 65536) := fun r hr => ⟨(HX3.out r hr).1.kept (KStr.of_below hb35), (HX3.out r hr).2⟩
      have HD5 : Hid (W5.ownsRow 1 9 1 (.slice dA dn dc) dn (strs dl)) := own_keep HD3.out (fun j hj => hb35.block j (HD3.out.lt j hj).2)
      have HV5 : Hid (W5.ownsRow 1 9 1 (.slice vA vn vc) vn (strs vl)) := own_keep HV3.out (fun j hj => hb35.block j (HV3.out.lt j hj).2)
      have HS5 := Lib.hid (HS3.out.below hb35 (by omega))
      have HB5 : Hid (Below w1.heap.size w1 W5) := HB3.out.trans (hb35.mono (by omega))
      have hzz : w1.heap.size + 1 ≤ w3.heap.size := by omega
      clear hW5 hW4 hb34 hb35 HQ4 HP4 q0 q1 q2 q3 g0 g1 g2 g3 x0 x1 h0 h1 HA3 HK3 HX3 HD3 HV3 HS3 HB3
      refine wpList_append_apd (base := w1.heap.size + 1) (size := 4) _ rfl (.tmp 32) (.tmp 34) 58 rfl 60 i0 _ 72 Tryz.underlying58 Hi.out Hz0.out Hz1.out Hz2.out rfl (by decide) A5 m c5 (flat rlC rs) rfl ?own_1 (W5.heap.size + 1) _ 1 _ [.int .i64 kd, .string nm, .slice dA dn dc, .slice vA vn vc] rfl ?nw_1 (by simp [Value.oneCell']) ?m1_1 ?m2_1 ?m3_1 ?_
      case own_1 => exact HA5.out.below ((Below.refl _ W5).alloc (Nat.le_refl _) _)
      case nw_1 =>
        refine ⟨rfl, fun _ => ⟨w3.heap.size + 2, 0, rfl, by omega, fun j u hu => ?_⟩⟩
        have := new_cells W5 60 [.int .i64 kd, .string nm, .slice dA dn dc, .slice vA vn vc] j u hu
        rw [zW5] at this
        rwa [Addr.add_lit] at this
      case m1_1 => unfold maxLen; omega
      case m2_1 => omega
      case m3_1 => simp; omega
      intro A7 c7 w6 ho6 hb6 hn6 hm6 hok6
      obtain ⟨r', hr'⟩ : ∃ r' : Tg, r' = ⟨nm, kd, dA, dn, dc, dl, vA, vn, vc, vl⟩ := ⟨_, rfl⟩
      have HA6 : Hid (Apd w6 (w1.heap.size + 1) 60 4 A7 (m + 1) c7 (flat rlC (rs ++ [r']))) := by show Apd _ _ _ _ _ _ _ _; rw [flat_append, hr']; exact ho6
      have HX6 : Hid (∀ r ∈ rs ++ [r'], TgX w6 0 r ∧ r.lab.size ≤ 65536) := fun r hr => by
        rcases List.mem_append.1 hr with hr | hr
        · have h := (HX5.out r hr).1.kept (KStr.of_below ((Below.refl _ W5).alloc (Nat.le_refl _) (.cells #[.int .i64 kd, .string nm, .slice dA dn dc, .slice vA vn vc] 60)))
          exact ⟨⟨hok6 _ _ _ _ _ _ (by decide) h.d, hok6 _ _ _ _ _ _ (by decide) h.v, h.ls, h.ds, h.vs⟩, (HX5.out r hr).2⟩
        · rw [List.mem_singleton.1 hr, hr']
          have h1 : ∀ {v : Value} {n : Nat} {xs : List Value}, W5.ownsRow 1 9 1 v n xs → w6.ownsRow 1 9 1 v n xs := fun h => hok6 _ _ _ _ _ _ (by decide) (own_keep h (fun j hj => Below.heap_alloc _ _ _ (h.lt j hj).2))
          exact ⟨⟨h1 HD5.out, h1 HV5.out, by have := HRZ.out.1; simp only at this ⊢; unfold maxLen; omega, fun d hd => by have := HRZ.out.2.1 d hd; unfold maxLen; omega, fun d hd => by have := HRZ.out.2.2 d hd; unfold maxLen; omega⟩, HRZ.out.1⟩
      have HK6 := Lib.hid ((HK5.out.alloc (.cells #[.int .i64 kd, .string nm, .slice dA dn dc, .slice vA vn vc] 60)).below hb6 (by omega))
      have HS6 := Lib.hid ((HS5.out.alloc (by omega) (.cells #[.int .i64 kd, .string nm, .slice dA dn dc, .slice vA vn vc] 60)).below hb6 (by omega))
      have HP6 := Lib.hid (bk_kept (HP5.out.alloc (.cells #[.int .i64 kd, .string nm, .slice dA dn dc, .slice vA vn vc] 60)) hok6 (by decide))
      have HB6 : Hid (Below w1.heap.size w1 w6) := (HB5.out.alloc HB5.out.size _).trans (hb6.mono (by omega))
      have hz6 := hb6.size
      rw [World.size_alloc] at hz6
      have HRC : Hid ((rs ++ [r']).map ct = rs.map ct ++ [(kd, nm, dl, vl)]) := by show _ = _; rw [List.map_append, hr']; rfl
      clear ho6 hb6 hok6 hr' HA5 HX5 HD5 HV5 HK5 HS5 HP5 HB5
      have p0 := HK6.out.cell 0; have p1 := HK6.out.cell 1; have f0 := HK6.out.free 0; have f1 := HK6.out.free 1
      have x0 := HP6.out.cell 0; have x1 := HP6.out.cell 1
      simp at p0 p1 x0 x1
      have hl2 : us2.length + 1 ≤ us.length ∨ bad2 = true := by
        cases bad2 with
        | true => exact .inr rfl
        | false => left; have := HST.out.2 rfl; omega
      have hle2 : bad2 = false → m + 1 + us2.length ≤ n1 := fun e => by rcases hl2 with h | h; omega; rw [e] at h; cases h
      clear hl2
      go_wp2_with fail
      go_roundw
      case rel => exact ⟨A7, m + 1, c7, rs ++ [r'], A3, n3, c3, us2, bad2, rfl, hn6, hm6, (HA6.out.setCell (by show w1.heap.size < w1.heap.size + 1; omega) _).setCell (by show w1.heap.size < w1.heap.size + 1; omega) _, (fun r hr => ⟨((HX6.out r hr).1.kept (kstr_set HK6.out (by decide) _)).kept (kstr_set (HK6.out.set 0 _) (by decide) _), (HX6.out r hr).2⟩), HK6.out.set2 _ _, (HS6.out.setCell (Nat.le_refl _) _).setCell (Nat.le_refl _) _, hn3, hc3, HSF2.out, by rw [HRC.out]; exact HST.out.1, hle2, by omega, below_set2 HB6.out (Nat.le_refl _) _ _, by rw [set_size2, set_size2]; omega⟩
      case measure => simp [lenV]; omega
    · by_cases hn0 : n2 = 0
      · subst hn0
        obtain rfl : us = [] := List.eq_nil_of_length_eq_zero hlu
        cases bad with
        | true =>
          have HE : Hid (ParR s [] s.size 3) := by
            refine .inr ⟨hs6, ws, HWF.out, .inl ⟨?_, rfl, rfl, rfl⟩⟩
            rcases hI.out with ⟨h, _⟩ | ⟨_, h⟩
            · cases h
            · exact h
          clear hgo hmu
          go_wp2_with fail
          exact bodyPost_ret (resultsPar rfl rfl rfl) rfl ⟨_, 0, 0, _, 3, [], rfl, Sl.nil _ _ _ _, (fun t h => by cases h), Nat.le_refl _, Nat.zero_le _, HE.out, HBw.out.alloc HBw.out.size _⟩
        | false =>
          have HP : Hid (Prs ws (.inl (rs.map ct))) := by
            rcases hI.out with ⟨_, h⟩ | ⟨h, _⟩
            · have := h.1 [] .done; rwa [List.append_nil] at this
            · cases h
          have HRK := Lib.hid (rcheck_g A5 m c5 wr.heap.size rs wr hA.out.sl (fun r hr => (hX.out r hr).1.ok) (Nat.le_refl _) (by omega) (fun r hr => by have := (hX.out r hr).2; omega))
          obtain ⟨ck, hck⟩ : ∃ ck, checkE rs = ck := ⟨_, rfl⟩
          have HCK : Hid (checkC (rs.map ct) = ck) := by show _ = _; rw [checkC_ct]; exact hck
          rw [hck] at HRK
          clear hgo hmu hck
          go_wp2_with fail
          refine HRK.out.mono ?_
          rintro e w4 ⟨rfl, hb4⟩
          have HB4 : Hid (Below w.heap.size w w4) := HBw.out.trans (hb4.mono HBw.out.size)
          have HA4 := Lib.hid (hA.out.below hb4)
          have HX4 : Hid (∀ r ∈ rs, TgX w4 0 r) := fun r hr => (hX.out r hr).1.kept (KStr.of_below hb4)
          clear hb4 HRK p0 p1
          by_cases hk0 : ck = 0
          · have e1 : (ck != 0) = false := by simpa using hk0
            have HE : Hid (ParR s (rs.map ct) 0 0) := .inr ⟨hs6, ws, HWF.out, .inr (.inr ⟨_, HP.out, .inr ⟨HCK.out.trans hk0, rfl, rfl, rfl⟩⟩)⟩
            clear hk0
            go_wp2_with fail
            exact bodyPost_ret (resultsPar rfl rfl rfl) rfl ⟨A5, m, c5, 0, 0, rs, rfl, HA4.out.sl, HX4.out, hmc, hcm5, HE.out, HB4.out⟩
          · have e1 : (ck != 0) = true := by simpa using hk0
            have HE : Hid (ParR s [] 0 ck) := .inr ⟨hs6, ws, HWF.out, .inr (.inr ⟨_, HP.out, .inl ⟨by rw [HCK.out]; exact hk0, rfl, rfl, HCK.out.symm⟩⟩)⟩
            clear hk0
            go_wp2_with fail
            exact bodyPost_ret (resultsPar rfl rfl rfl) rfl ⟨_, 0, 0, 0, ck, [], rfl, Sl.nil _ _ _ _, (fun t h => by cases h), Nat.le_refl _, Nat.zero_le _, HE.out, HB4.out.alloc HB4.out.size _⟩
      · obtain rfl : bad = true := by
          cases bad with
          | true => rfl
          | false => exact absurd ⟨rfl, Nat.pos_of_ne_zero hn0⟩ hgo
        obtain ⟨b, off, x, r, rfl, hb, rfl, y0, y1⟩ := hS.out.wd0 (Nat.pos_of_ne_zero hn0)
        have HE : Hid (ParR s [] (x.2 : Nat) 3) := by
          refine .inr ⟨hs6, ws, HWF.out, .inr (.inl ⟨x, r, ?_, rfl, rfl, rfl⟩)⟩
          rcases hI.out with ⟨h, _⟩ | ⟨_, h⟩
          · cases h
          · exact h
        have hnz : (0 : Int) < (n2 : Int) := by omega
        have hne : ((n2 : Int) == 0) = false := by rw [beq_eq_false_iff_ne]; omega
        have hba := (Below.refl _ wr).alloc (Nat.le_refl _) (.cells #[] 60)
        have y1' := (hba.cell (p := ⟨b, off + 1, none⟩) (by show b < _; omega)).trans y1
        have p0' := (hba.cell (p := ⟨w1.heap.size, 0, none⟩) (by show w1.heap.size < _; omega)).trans p0
        have p1' := (hba.cell (p := ⟨w1.heap.size, 1, none⟩) (by show w1.heap.size < _; omega)).trans p1
        clear hgo hmu hn0 hba y0
        go_wp2_with fail
        go_region
        go_wp2_with fail
        refine bodyPost_ret (resultsPar rfl rfl rfl) rfl ⟨_, 0, 0, _, 3, [], rfl, Sl.nil _ _ _ _, (fun t h => by cases h), Nat.le_refl _, Nat.zero_le _, HE.out, ?_⟩
        first
          | exact below_drewN (HBw.out.alloc HBw.out.size _) _
          | exact (below_drewN HBw.out _).alloc (below_drewN HBw.out _).size _
end Go.Proofs.YtddlohbhchjjhaaGreatDoor

namespace Go.Proofs.YtddlohbhchjjhaaGreatDoor
open Go.RowKit Go.Shelf Go.Maps

def AddEnd (rs : List Tg) (t : Tg) (w : World) (e : Ending) (w' : World) : Prop :=
  ∃ A' c' qs, e = .returned (.slice A' (rs.length + 1) c') ∧ Sl w' w'.heap.size 4 A' (rs.length + 1) (flat tgC qs) ∧ qs.map ct = insC (rs.map ct) (ct t) ∧ (∀ q ∈ qs, q ∈ rs ∨ q = t) ∧ rs.length + 1 ≤ c' ∧ c' ≤ maxLen ∧ Below w.heap.size w w'
theorem tgs_one (l : List Tg) : ∀ u ∈ flat tgC l, u.oneCell' = true := fun u hu => by
  obtain ⟨t, _, hu⟩ := List.mem_flatMap.1 hu
  simp only [tgC, List.mem_cons, List.mem_nil_iff, or_false] at hu
  rcases hu with rfl | rfl | rfl | rfl <;> rfl
theorem insC_map (rs : List Tg) (t : Tg) (k : Nat) (h : posC (rs.map ct) t.lab = k) : (rs.take k ++ [t] ++ rs.drop k).map ct = insC (rs.map ct) (ct t) := by
  unfold insC
  rw [show (ct t).2.1 = t.lab from rfl, h]
  simp
set_option maxRecDepth 100000 in
set_option maxHeartbeats 4000000 in
theorem radd_any (A : Option Addr) (n c B : Nat) (rs : List Tg) (t : Tg) (w : World) (h0 : Sl w B 4 A n (flat tgC rs)) (hB : B ≤ w.heap.size) (hnc : n ≤ c) (hcm : c ≤ maxLen) (hn : n ≤ 1000000) :
    Calls Tryz.prog 102 #[.slice A n c, tgV t] w (AddEnd rs t w) := by
  have HL := Lib.hid (h0.len tgC_len (by omega))
  have HCM := Lib.hid hcm
  obtain ⟨i0, hi, hz0, hz1, hz2⟩ := info_parts infoTgt
  have Hi := Lib.hid hi; have Hz0 := Lib.hid hz0; have Hz1 := Lib.hid hz1; have Hz2 := Lib.hid hz2
  clear hi hz0 hz1 hz2 hcm
  obtain ⟨tl, tk, tdA, tdn, tdc, td, tvA, tvn, tvc, tv⟩ := t
  unfold tgV
  simp only
  obtain ⟨w0, hw0⟩ : ∃ w0, w.alloc (.cells #[.string tl, .int .i64 tk, .slice tdA tdn tdc, .slice tvA tvn tvc] 35) = w0 := ⟨_, rfl⟩
  have HB0 : Hid (Below w.heap.size w w0) := by rw [← hw0]; exact (Below.refl _ w).alloc (Nat.le_refl _) _
  have HK0 : Hid (Bk w0 w.heap.size 35 #[.string tl, .int .i64 tk, .slice tdA tdn tdc, .slice tvA tvn tvc]) := by rw [← hw0]; exact Bk.new w _ _
  have H0 := Lib.hid (h0.below HB0.out hB)
  have zw0 : w.heap.size < w0.heap.size := HK0.out.lt
  have hS0 := Lib.hid h0; clear h0
  have z0 := HK0.out.cell 0
  simp at z0
  go_enter Tryz.func102, Tryz.ntmps102
  go_wp2_with fail
  clear hw0
  go_loopw [5] (fun i wr => ∃ k q : Nat, k ≤ n ∧ i = .int .i64 k ∧ wr = w0.drewN q ∧ Hid (∀ x ∈ (rs.map ct).take k, less x.2.1 tl = true)) (fun i _ => n - (intOf i).toNat)
  case atStart => exact ⟨0, 0, Nat.zero_le _, rfl, rfl, fun x hx => by simp at hx⟩
  case round =>
    obtain ⟨k, q, hk, rfl, rfl, hall⟩ := hrel
    have tk' := run_slice_to (P := Tryz.prog) 25 i0 Tryz.underlying25 Hi.out A n c k (by omega)
    by_cases hlt : k < n
    · obtain ⟨b, off, y, rfl, hbB, hy, x0, x1, x2, x3⟩ := H0.out.tg hlt
      have hlz : (k : Int) < (n : Int) := by omega
      have HY : Hid ((rs.map ct)[k]? = some (ct y)) := by show _ = _; rw [List.getElem?_map, hy]; rfl
      clear hy x1 x2 x3
      have t1 := less_str y.lab tl
      cases hl : less y.lab tl with
      | true =>
        rw [hl] at t1
        have hnx : Hid (∀ x ∈ (rs.map ct).take (k + 1), less x.2.1 tl = true) := posC_step hall.out HY.out hl
        clear hl
        go_wp2_with fail
        go_quiet (fail)
        go_wp2_with fail
        go_roundw
        case rel => exact ⟨k + 1, _, by omega, by go_num, rfl, hnx⟩
        case measure => simp [intOf]; omega
      | false =>
        rw [hl] at t1
        have HP : Hid (posC (rs.map ct) tl = k) := posC_at hall.out (by rw [List.length_map, HL.out]; exact hk) (fun c hc => by rw [HY.out] at hc; cases hc; exact hl)
        clear hl
        obtain ⟨Ak, hAr, hAk⟩ := run_slice_from (P := Tryz.prog) 25 i0 Tryz.underlying25 Hi.out Hz1.out (some ⟨b, off, none⟩) n c k hk hnc
        have HAk := Lib.hid hAk
        clear hAk
        go_wp2_with fail
        go_quiet (fail)
        obtain ⟨wr, hwr⟩ : ∃ wr, (w0.drewN q).drewN nq = wr := ⟨_, rfl⟩
        have HBr : Hid (Below w.heap.size w wr) := by rw [← hwr]; exact below_drewN (below_drewN HB0.out _) _
        have H1 : Hid (Sl wr B 4 (some ⟨b, off, none⟩) n (flat tgC rs)) := by rw [← hwr]; exact (H0.out.drewN _).drewN _
        have HK1 : Hid (Bk wr w.heap.size 35 #[.string tl, .int .i64 tk, .slice tdA tdn tdc, .slice tvA tvn tvc]) := by rw [← hwr]; exact HK0.out
        rw [hwr]
        have zwr : w0.heap.size ≤ wr.heap.size := by rw [← hwr]; exact Nat.le_refl _
        clear hwr z0 x0
        go_wp2_with (at_builtin; refine halt_ ?_)
        refine unhalt ?_
        refine wpList_append_apd (base := w.heap.size + 1) (size := 4) _ rfl (.tmp 23) (.tmp 26) 25 rfl 35 i0 _ 72 Tryz.underlying25 Hi.out Hz0.out Hz1.out Hz2.out rfl (by decide) _ 0 0 [] rfl (.inr ⟨rfl, rfl, rfl⟩) B _ k _ (flat tgC (rs.take k)) rfl ?hs1x (tgs_one _) ?b1x ?b2x ?b3x ?_
        case hs1x => exact (H1.out.take_ tgC_len (by omega) hk).alloc (by have := HBr.out.size; omega) _
        case b1x => unfold maxLen; omega
        case b2x => omega
        case b3x => simp; omega
        intro A1 c1 w1 ha1 hb1 hc1 hm1 _
        simp only [Nat.zero_add, List.nil_append] at ha1
        rw [Nat.zero_add]
        have HA1 := Lib.hid ha1
        have HK2 := Lib.hid ((HK1.out.alloc _).below hb1 (Nat.lt_succ_self _))
        have HB1 : Hid (Below w.heap.size w w1) := (HBr.out.alloc HBr.out.size _).trans (hb1.mono (Nat.le_succ _))
        clear ha1 hb1 hc1 hm1
        have y0 := HK2.out.cell 0; have y1 := HK2.out.cell 1; have y2 := HK2.out.cell 2; have y3 := HK2.out.cell 3
        simp at y0 y1 y2 y3
        have zw1 : w.heap.size < w1.heap.size := HK2.out.lt
        go_wp2_with (at_builtin; refine halt_ ?_)
        refine unhalt ?_
        refine wpList_append_apd (base := w.heap.size + 1) (size := 4) _ rfl (.tmp 28) (.tmp 30) 25 rfl 35 i0 _ 72 Tryz.underlying25 Hi.out Hz0.out Hz1.out Hz2.out rfl (by decide) A1 k c1 (flat tgC (rs.take k)) rfl ?ow2x (w1.heap.size + 1) _ 1 _ (tgC ⟨tl, tk, tdA, tdn, tdc, td, tvA, tvn, tvc, tv⟩) rfl ?hs2x (by simp [tgC, Value.oneCell']) ?b4x ?b5x ?b6x ?_
        case ow2x => exact HA1.out.below ((Below.refl _ w1).alloc (Nat.le_refl _) _)
        case hs2x => exact ⟨rfl, fun _ => ⟨w1.heap.size, 0, rfl, Nat.lt_succ_self _, fun j u hu => by have := new_cells w1 35 (tgC ⟨tl, tk, tdA, tdn, tdc, td, tvA, tvn, tvc, tv⟩) j u hu; rwa [Addr.add_lit] at this⟩⟩
        case b4x => unfold maxLen; omega
        case b5x => omega
        case b6x => simp; omega
        intro A2 c2 w2 ha2 hb2 hc2 hm2 _
        have HA2 := Lib.hid ha2
        have HB2 : Hid (Below w.heap.size w w2) := (HB1.out.alloc HB1.out.size _).trans (hb2.mono (Nat.le_succ _))
        have zw2 : w1.heap.size + 1 ≤ w2.heap.size := by have := hb2.size; simpa using this
        clear ha2 hb2 hc2 hm2 y0 y1 y2 y3
        go_wp2_with (at_builtin; refine halt_ ?_)
        refine unhalt ?_
        refine wpList_append_apd (base := w.heap.size + 1) (size := 4) _ rfl (.tmp 32) (.tmp 35) 25 rfl 35 i0 _ 72 Tryz.underlying25 Hi.out Hz0.out Hz1.out Hz2.out rfl (by decide) A2 (k + 1) c2 (flat tgC (rs.take k) ++ tgC ⟨tl, tk, tdA, tdn, tdc, td, tvA, tvn, tvc, tv⟩) rfl HA2.out B Ak (n - k) (c - k) (flat tgC (rs.drop k)) rfl ?hs3x (tgs_one _) ?b7x ?b8x ?b9x ?_
        case hs3x => rw [flat_drop tgC_len]; exact HAk.out w2 B _ ((hS0.out).below HB2.out hB)
        case b7x => unfold maxLen; omega
        case b8x => omega
        case b9x => omega
        intro A3 c3 w3 ha3 hb3 hc3 hm3 _
        have HEL : Hid (rs.length + 1 = k + 1 + (n - k)) := by
          show _ = _
          rw [HL.out]; omega
        have HS3 : Hid (Sl w3 w3.heap.size 4 A3 (rs.length + 1) (flat tgC (rs.take k ++ [⟨tl, tk, tdA, tdn, tdc, td, tvA, tvn, tvc, tv⟩] ++ rs.drop k))) := by
          show Sl _ _ _ _ _ _
          rw [HEL.out, flat_append, flat_append]
          have := ha3.sl
          simpa [flat] using this
        have HB3 : Hid (Below w.heap.size w w3) := HB2.out.trans (hb3.mono (Nat.le_succ _))
        clear ha3 hb3
        go_wp2_with fail
        go_ret
        rw [← HEL.out] at hc3 ⊢
        refine ⟨A3, c3, _, rfl, HS3.out, insC_map rs _ k HP.out, fun q hq => ?_, hc3, hm3, HB3.out⟩
        rcases List.mem_append.1 hq with hq | hq
        · rcases List.mem_append.1 hq with hq | hq
          · exact .inl (List.mem_of_mem_take hq)
          · exact .inr (List.mem_singleton.1 hq)
        · exact .inl (List.mem_of_mem_drop hq)
    · have hlz : ¬ (k : Int) < (n : Int) := by omega
      have HP : Hid (posC (rs.map ct) tl = k) := posC_at hall.out (by rw [List.length_map, HL.out]; exact hk) (fun c hc => by rw [List.getElem?_eq_none (by rw [List.length_map, HL.out]; omega)] at hc; cases hc)
      obtain ⟨Ak, hAr, hAk⟩ := run_slice_from (P := Tryz.prog) 25 i0 Tryz.underlying25 Hi.out Hz1.out (A) n c k hk hnc
      have HAk := Lib.hid hAk
      clear hAk
      go_wp2_with fail
      go_quiet (fail)
      obtain ⟨wr, hwr⟩ : ∃ wr, (w0.drewN q).drewN nq = wr := ⟨_, rfl⟩
      have HBr : Hid (Below w.heap.size w wr) := by rw [← hwr]; exact below_drewN (below_drewN HB0.out _) _
      have H1 : Hid (Sl wr B 4 (A) n (flat tgC rs)) := by rw [← hwr]; exact (H0.out.drewN _).drewN _
      have HK1 : Hid (Bk wr w.heap.size 35 #[.string tl, .int .i64 tk, .slice tdA tdn tdc, .slice tvA tvn tvc]) := by rw [← hwr]; exact HK0.out
      rw [hwr]
      have zwr : w0.heap.size ≤ wr.heap.size := by rw [← hwr]; exact Nat.le_refl _
      clear hwr z0 
      go_wp2_with (at_builtin; refine halt_ ?_)
      refine unhalt ?_
      refine wpList_append_apd (base := w.heap.size + 1) (size := 4) _ rfl (.tmp 23) (.tmp 26) 25 rfl 35 i0 _ 72 Tryz.underlying25 Hi.out Hz0.out Hz1.out Hz2.out rfl (by decide) _ 0 0 [] rfl (.inr ⟨rfl, rfl, rfl⟩) B _ k _ (flat tgC (rs.take k)) rfl ?hs1y (tgs_one _) ?b1y ?b2y ?b3y ?_
      case hs1y => exact (H1.out.take_ tgC_len (by omega) hk).alloc (by have := HBr.out.size; omega) _
      case b1y => unfold maxLen; omega
      case b2y => omega
      case b3y => simp; omega
      intro A1 c1 w1 ha1 hb1 hc1 hm1 _
      simp only [Nat.zero_add, List.nil_append] at ha1
      rw [Nat.zero_add]
      have HA1 := Lib.hid ha1
      have HK2 := Lib.hid ((HK1.out.alloc _).below hb1 (Nat.lt_succ_self _))
      have HB1 : Hid (Below w.heap.size w w1) := (HBr.out.alloc HBr.out.size _).trans (hb1.mono (Nat.le_succ _))
      clear ha1 hb1 hc1 hm1
      have y0 := HK2.out.cell 0; have y1 := HK2.out.cell 1; have y2 := HK2.out.cell 2; have y3 := HK2.out.cell 3
      simp at y0 y1 y2 y3
      have zw1 : w.heap.size < w1.heap.size := HK2.out.lt
      go_wp2_with (at_builtin; refine halt_ ?_)
      refine unhalt ?_
      refine wpList_append_apd (base := w.heap.size + 1) (size := 4) _ rfl (.tmp 28) (.tmp 30) 25 rfl 35 i0 _ 72 Tryz.underlying25 Hi.out Hz0.out Hz1.out Hz2.out rfl (by decide) A1 k c1 (flat tgC (rs.take k)) rfl ?ow2y (w1.heap.size + 1) _ 1 _ (tgC ⟨tl, tk, tdA, tdn, tdc, td, tvA, tvn, tvc, tv⟩) rfl ?hs2y (by simp [tgC, Value.oneCell']) ?b4y ?b5y ?b6y ?_
      case ow2y => exact HA1.out.below ((Below.refl _ w1).alloc (Nat.le_refl _) _)
      case hs2y => exact ⟨rfl, fun _ => ⟨w1.heap.size, 0, rfl, Nat.lt_succ_self _, fun j u hu => by have := new_cells w1 35 (tgC ⟨tl, tk, tdA, tdn, tdc, td, tvA, tvn, tvc, tv⟩) j u hu; rwa [Addr.add_lit] at this⟩⟩
      case b4y => unfold maxLen; omega
      case b5y => omega
      case b6y => simp; omega
      intro A2 c2 w2 ha2 hb2 hc2 hm2 _
      have HA2 := Lib.hid ha2
      have HB2 : Hid (Below w.heap.size w w2) := (HB1.out.alloc HB1.out.size _).trans (hb2.mono (Nat.le_succ _))
      have zw2 : w1.heap.size + 1 ≤ w2.heap.size := by have := hb2.size; simpa using this
      clear ha2 hb2 hc2 hm2 y0 y1 y2 y3
      go_wp2_with (at_builtin; refine halt_ ?_)
      refine unhalt ?_
      refine wpList_append_apd (base := w.heap.size + 1) (size := 4) _ rfl (.tmp 32) (.tmp 35) 25 rfl 35 i0 _ 72 Tryz.underlying25 Hi.out Hz0.out Hz1.out Hz2.out rfl (by decide) A2 (k + 1) c2 (flat tgC (rs.take k) ++ tgC ⟨tl, tk, tdA, tdn, tdc, td, tvA, tvn, tvc, tv⟩) rfl HA2.out B Ak (n - k) (c - k) (flat tgC (rs.drop k)) rfl ?hs3y (tgs_one _) ?b7y ?b8y ?b9y ?_
      case hs3y => rw [flat_drop tgC_len]; exact HAk.out w2 B _ ((hS0.out).below HB2.out hB)
      case b7y => unfold maxLen; omega
      case b8y => omega
      case b9y => omega
      intro A3 c3 w3 ha3 hb3 hc3 hm3 _
      have HEL : Hid (rs.length + 1 = k + 1 + (n - k)) := by
        show _ = _
        rw [HL.out]; omega
      have HS3 : Hid (Sl w3 w3.heap.size 4 A3 (rs.length + 1) (flat tgC (rs.take k ++ [⟨tl, tk, tdA, tdn, tdc, td, tvA, tvn, tvc, tv⟩] ++ rs.drop k))) := by
        show Sl _ _ _ _ _ _
        rw [HEL.out, flat_append, flat_append]
        have := ha3.sl
        simpa [flat] using this
      have HB3 : Hid (Below w.heap.size w w3) := HB2.out.trans (hb3.mono (Nat.le_succ _))
      clear ha3 hb3
      go_wp2_with fail
      go_ret
      rw [← HEL.out] at hc3 ⊢
      refine ⟨A3, c3, _, rfl, HS3.out, insC_map rs _ k HP.out, fun q hq => ?_, hc3, hm3, HB3.out⟩
      rcases List.mem_append.1 hq with hq | hq
      · rcases List.mem_append.1 hq with hq | hq
        · exact .inl (List.mem_of_mem_take hq)
        · exact .inr (List.mem_singleton.1 hq)
      · exact .inl (List.mem_of_mem_drop hq)
end Go.Proofs.YtddlohbhchjjhaaGreatDoor

namespace Go.Proofs.YtddlohbhchjjhaaGreatDoor
open Go.RowKit Go.Shelf Go.Maps

def TgsR (fs : List Fl) (us : List Ct) (wh : ByteArray) (err : Int) : Prop :=
  (∃ p e, Gat fs (.inr (p, e)) ∧ us = [] ∧ wh = p ∧ err = e) ∨ (∃ ds, Gat fs (.inl ds) ∧ ((100 < ds.length ∧ us = [] ∧ wh = ⟨#[]⟩ ∧ err = 4) ∨ (ds.length ≤ 100 ∧ us.Perm ds ∧ SrtC us ∧ wh = ⟨#[]⟩ ∧ err = 0)))
def TgsEnd (fs : List Fl) (w : World) (e : Ending) (w' : World) : Prop :=
  ∃ A m c rs wh err, e = .returned (.tuple #[.slice A m c, .string wh, .int .i64 err]) ∧ Sl w' w'.heap.size 4 A m (flat tgC rs) ∧ (∀ t ∈ rs, TgOk w' w'.heap.size t) ∧ m ≤ c ∧ c ≤ maxLen ∧ TgsR fs (rs.map ct) wh err ∧ Below w.heap.size w w'
theorem TgsEnd.none_ {fs : List Fl} {w w' : World} {wh : ByteArray} {err : Int} (h : TgsR fs [] wh err) (hb : Below w.heap.size w w') : TgsEnd fs w (.returned (.tuple #[.slice none 0 0, .string wh, .int .i64 err])) w' :=
  ⟨none, 0, 0, [], wh, err, rfl, Sl.nil _ _ _ _, (fun t h => by cases h), Nat.le_refl _, Nat.zero_le _, h, hb⟩
def AdV (rs : List Tg) (t : Tg) (v : Value) (W : World) : Prop :=
  ∃ A' c' qs, v = .slice A' (rs.length + 1) c' ∧ Sl W W.heap.size 4 A' (rs.length + 1) (flat tgC qs) ∧ qs.map ct = insC (rs.map ct) (ct t) ∧ (∀ q ∈ qs, q ∈ rs ∨ q = t) ∧ rs.length + 1 ≤ c' ∧ c' ≤ maxLen
theorem AdV.on {rs : List Tg} {t : Tg} {v : Value} {W W' : World} (h : AdV rs t v W) (hb : Below W.heap.size W W') : AdV rs t v W' := by
  obtain ⟨A', c', qs, e, hs, h2, h3, h4, h5⟩ := h
  exact ⟨A', c', qs, e, (hs.below hb (Nat.le_refl _)).more hb.size, h2, h3, h4, h5⟩
theorem parR_ruleC {s : ByteArray} {rs : List Tg} {a : Int} (h : ParR s (rs.map ct) a 0) : ∀ c ∈ rs.map ct, ruleE (ctT c) = 0 := fun c hc => by
  have hk := checkE_ok (show checkE ((rs.map ct).map ctT) = 0 from parR_check h)
  exact hk.2 _ (List.mem_map_of_mem hc)
theorem TgOk.on {w w' : World} {t : Tg} (h : TgOk w w.heap.size t) (hb : Below w.heap.size w w') : TgOk w' w'.heap.size t := by
  have := h.below hb (Nat.le_refl _)
  exact ⟨this.d.more hb.size, h.dle, h.dmax, this.v.more hb.size, h.vle, h.vmax, h.ls, h.ds, h.vs⟩
theorem Sl.upon {w w' : World} {n size : Nat} {A : Option Addr} {xs : List Value} (h : Sl w w.heap.size size A n xs) (hb : Below w.heap.size w w') : Sl w' w'.heap.size size A n xs := (h.below hb (Nat.le_refl _)).more hb.size

theorem resultsTgs {w : World} {a : Array Value} {x y z : Value} (hx : a[2]?.getD undef = x) (hy : a[3]?.getD undef = y) (hz : a[4]?.getD undef = z) : (results Tryz.f55 a).run Tryz.prog w = .ok (.tuple #[x, y, z]) w := by
  simp [results, Tryz.results55, hx, hy, hz, go_sem]
set_option maxRecDepth 100000 in
set_option maxHeartbeats 16000000 in
theorem rtargets_any (A : Option Addr) (n c B : Nat) (fs : List Fl) (w : World) (h0 : Sl w B 2 A n (flat flC fs)) (hB : B ≤ w.heap.size) (hn : n ≤ 1000) (hsz : ∀ f ∈ fs, f.1.size ≤ 500 ∧ f.2.size ≤ 60000 ∧ f.1 ≠ rootW) :
    Calls Tryz.prog 55 #[.slice A n c] w (TgsEnd fs w) := by
  have HL := Lib.hid (h0.len flC_len (by omega))
  have H0 := Lib.hid h0; have HSZ := Lib.hid hsz
  clear h0 hsz
  go_enter Tryz.func55, Tryz.ntmps55
  go_wp2_with fail
  go_loopw [5, 6] (fun o i wr => ∃ (k : Nat) (A5 : Option Addr) (m c5 : Nat) (rs : List Tg) (ds : List Ct), o = .slice A5 m c5 ∧ i = .int .i64 (k : Int) ∧ k ≤ n ∧ m ≤ 100 * k ∧ m ≤ c5 ∧ c5 ≤ maxLen ∧ Hid (Sl wr wr.heap.size 4 A5 m (flat tgC rs)) ∧ Hid (∀ t ∈ rs, TgOk wr wr.heap.size t) ∧ Hid (rs.map ct = allC [] ds) ∧ Hid (GatP fs k ds) ∧ Hid (Below w.heap.size w wr)) (fun _ i _ => n - (intOf i).toNat)
  case atStart => exact ⟨0, _, 0, 0, [], [], rfl, rfl, Nat.zero_le _, Nat.zero_le _, Nat.le_refl _, Nat.zero_le _, Sl.nil _ _ _ _, (fun t h => by cases h), rfl, GatP.start fs, (Below.refl _ w).alloc (Nat.le_refl _) _⟩
  case round =>
    obtain ⟨k, A5, m, c5, rs, ds, rfl, rfl, hk, hmk, hmc, hcm, hS, hX, hC, hP, hBel⟩ := hrel
    have HRL := Lib.hid (hS.out.len tgC_len (by omega))
    by_cases hlt : k < n
    · obtain ⟨bb, off, f, rfl, hbB, hf, y0, y1⟩ := (H0.out.below hBel.out hB).fl hlt
      have hlz : (k : Int) < (n : Int) := by omega
      have HF := Lib.hid hf
      obtain ⟨hfp, hfd, hfr⟩ := HSZ.out f (List.mem_of_getElem? hf)
      have HBU := Lib.hid (build39_any f.1 wr (by omega) hfr)
      have hbw := hBel.out.size
      clear hf hfr
      cases hbl : bldB f.1 with
      | false =>
        have HP2 := Lib.hid (hP.out.skip HF.out hbl)
        rw [hbl] at HBU
        clear hbl
        go_wp2_with fail
        refine HBU.out.mono ?_
        rintro e w1 ⟨rfl, rfl⟩
        go_wp2_with fail
        go_roundw
        case rel => exact ⟨k + 1, A5, m, c5, rs, ds, rfl, by go_num, hlt, by omega, hmc, hcm, hS.out, hX.out, hC.out, HP2.out, hBel.out⟩
        case measure => simp [intOf]; omega
      | true =>
        rw [hbl] at HBU
        have HBL := Lib.hid hbl
        clear hbl
        have hdz : (dirS f.1).size ≤ 500 := Nat.le_trans (dir_size f.1) hfp
        have HDR := Lib.hid (rdir_any f.1 wr (by omega))
        have HPA := Lib.hid (rparse_any f.2 wr (by unfold maxLen; omega))
        have HLR : Hid (¬ (dirS f.1 ≠ ⟨#[]⟩ ∧ labB (dirS f.1) = false) → ∀ cs err, (∃ ds at_ e1, ParR f.2 ds at_ e1 ∧ ((e1 ≠ 0 ∧ cs = [] ∧ err = e1) ∨ (e1 = 0 ∧ lfE (dirS f.1) ds ≠ 0 ∧ cs = [] ∧ err = lfE (dirS f.1) ds) ∨ (e1 = 0 ∧ lfE (dirS f.1) ds = 0 ∧ cs = ds.map (jnC (dirS f.1)) ∧ err = 0))) → LfR f cs err) := fun h0 cs err h => .inr ⟨h0, h⟩
        have HL6 : Hid ((dirS f.1 ≠ ⟨#[]⟩ ∧ labB (dirS f.1) = false) → LfR f [] 6) := fun h => .inl ⟨h, rfl, rfl⟩
        generalize dirS f.1 = d at *
        have h1 : (d.toList == []) = decide (d = ⟨#[]⟩) := str_lit d _
        have HLAB := Lib.hid (rlabel_any d wr (by unfold maxLen; omega))
        go_wp2_with (first | (go_at_call 98; refine HBU.out.mono ?_; rintro e w1 ⟨rfl, rfl⟩) | (go_at_call 60; refine HDR.out.mono ?_; rintro e w1 ⟨rfl, rfl⟩; refine halt_ ?_))
        refine unhalt ?_
        clear HBU HDR
        rcases (show d = ⟨#[]⟩ ∨ (d ≠ ⟨#[]⟩ ∧ labB d = true) ∨ (d ≠ ⟨#[]⟩ ∧ labB d = false) by
          by_cases e : d = ⟨#[]⟩
          · exact .inl e
          · cases hl : labB d with
            | true => exact .inr (.inl ⟨e, rfl⟩)
            | false => exact .inr (.inr ⟨e, rfl⟩)) with e1 | ⟨e1, hl⟩ | ⟨e1, hl⟩
        rotate_left 2
        · have HG := Lib.hid (hP.out.bad HF.out HBL.out (HL6.out ⟨e1, hl⟩) (by decide))
          rw [decide_eq_false e1] at h1
          rw [hl] at HLAB
          clear e1 hl HL6 HLR HPA
          go_wp2_with fail
          refine HLAB.out.mono ?_
          rintro e w1 ⟨rfl, rfl⟩
          go_wp2_with fail
          go_quiet (fail)
          go_wp2_with fail
          exact bodyPost_ret (resultsTgs rfl rfl rfl) rfl (TgsEnd.none_ (.inl ⟨_, _, HG.out, rfl, rfl, rfl⟩) (below_drewN hBel.out _))
        · have HNE : Hid (¬ (d ≠ ⟨#[]⟩ ∧ labB d = false)) := fun h => h.1 e1
          have HLC := Lib.hid (HLR.out HNE.out)
          rw [decide_eq_true e1] at h1
          clear e1 HLR HL6 HLAB
          go_wp2_with (go_at_call 100; refine HPA.out.mono ?_; rintro e w2 ⟨A8, n8, c8, at_, err, qs, rfl, hsl, hok, hnc8, hcm8, hpr, hb2⟩; refine halt_ ?_)
          refine unhalt ?_
          have HS2 := Lib.hid hsl; have HPR := Lib.hid hpr
          have HQ2 : Hid (∀ t ∈ qs, TgOk w2 w2.heap.size t) := fun t ht => (hok t ht).ok
          have HSr2 := Lib.hid (hS.out.upon hb2)
          have HX2 : Hid (∀ t ∈ rs, TgOk w2 w2.heap.size t) := fun t ht => (hX.out t ht).on hb2
          have HB2 : Hid (Below w.heap.size w w2) := hBel.out.trans (hb2.mono hbw)
          have hz2 := hb2.size
          have HLN := Lib.hid (hsl.len rlC_len (by omega))
          have y0' : w2.cell? ⟨bb, off + k * 2, none⟩ = some (.string f.1) := hb2.cell (by show bb < _; omega) |>.trans y0
          have HY := Lib.hid y0'
          clear hsl hok hpr hb2 HPA y0 y1 y0'
          have y0 := HY.out
          by_cases he : err = 0
          rotate_left
          · have he' : (err != 0) = true := by simpa using he
            have HG := Lib.hid (hP.out.bad HF.out HBL.out (HLC.out [] err ⟨_, _, _, HPR.out, .inl ⟨he, rfl, rfl⟩⟩) he)
            clear he
            go_wp2_with fail
            go_quiet (fail)
            go_wp2_with fail
            exact bodyPost_ret (resultsTgs rfl rfl rfl) rfl (TgsEnd.none_ (.inl ⟨_, _, HG.out, rfl, rfl, rfl⟩) (below_drewN HB2.out _))
          subst he
          have hru := parR_rules HPR.out
          have hn100 : n8 ≤ 100 := by rw [← HLN.out]; exact hru.1
          have HRU := Lib.hid hru.2
          clear hru y0
          go_wp2_with fail
          go_loopw [5, 11] (fun o i wq => ∃ (j : Nat) (A6 : Option Addr) (m6 c6 : Nat) (rs6 : List Tg), o = .slice A6 m6 c6 ∧ i = .int .i64 (j : Int) ∧ j ≤ n8 ∧ Hid (m6 = m + j) ∧ m6 ≤ c6 ∧ c6 ≤ maxLen ∧ Hid (Sl wq wq.heap.size 4 A6 m6 (flat tgC rs6)) ∧ Hid (∀ t ∈ rs6, TgOk wq wq.heap.size t) ∧ Hid (rs6.map ct = allC [] (ds ++ ((qs.take j).map (jnT d)).map ct)) ∧ Hid (∀ r ∈ qs.take j, joiE d r.lab = 0) ∧ Hid (Below w2.heap.size w2 wq)) (fun _ i _ => n8 - (intOf i).toNat)
          case atStart => exact ⟨0, A5, m, c5, rs, rfl, rfl, Nat.zero_le _, rfl, hmc, hcm, HSr2.out, HX2.out, by show _ = _; rw [hC.out]; simp, (fun r h => by simp at h), Below.refl _ _⟩
          case round =>
            obtain ⟨j, A6, m6, c6, rs6, rfl, rfl, hj, hM6, hmc6, hcm6, hS6, hX6, hC6, hZ, hBw⟩ := hrel
            have hzr := hBw.out.size
            have hm6b : m6 ≤ 200000 := by have := hM6.out; omega
            have HR6 := Lib.hid (hS6.out.len tgC_len (by omega))
            by_cases hjt : j < n8
            · obtain ⟨b2, o2, r, rfl, hb2, hr, z0, z1, z2, z3⟩ := (HS2.out.below hBw.out (Nat.le_refl _)).rl hjt
              have hjz : (j : Int) < (n8 : Int) := by omega
              have hrs : r.lab.size ≤ 90 := freB_size (ruleE_ok (HRU.out r (List.mem_of_getElem? hr))).1
              have HR := Lib.hid hr
              have HQR : Hid (TgOk wr wr.heap.size r) := by
                have h := HQ2.out r (List.mem_of_getElem? hr)
                exact h.on hBw.out
              have HJ := Lib.hid (rjoin_any d r.lab wr (by omega) (by omega))
              have y0 : wr.cell? ⟨bb, off + k * 2, none⟩ = some (.string f.1) := (hBw.out.cell (by show bb < _; omega)).trans HY.out
              clear hr
              by_cases hje : joiE d r.lab = 0
              · have HJE := Lib.hid hje
                have HZ2 : Hid (∀ q ∈ qs.take (j + 1), joiE d q.lab = 0) := fun q hq => by
                  rw [take_snoc HR.out] at hq
                  rcases List.mem_append.1 hq with hq | hq
                  · exact hZ.out q hq
                  · rw [List.mem_singleton.1 hq]; exact HJE.out
                obtain ⟨lb, hlb⟩ : ∃ lb, joiS d r.lab = lb := ⟨_, rfl⟩
                have HJV : Hid (joiV d r.lab = lb) := (if_pos hje).trans hlb
                have hlz2 : lb.size ≤ 1000 := by
                  rw [← hlb]; unfold joiS
                  split
                  · omega
                  · rw [ByteArray.size_append, ByteArray.size_append]; have : slW.size = 1 := rfl; omega
                have HLB := Lib.hid hlb
                clear hje hlb
                go_wp2_with (go_at_call 101; refine HJ.out.mono ?_; rintro e w5 ⟨rfl, hb5⟩; rw [HJE.out, HJV.out]; refine halt_ ?_)
                refine unhalt ?_
                have hz5 := hb5.size
                have HS5 := Lib.hid (hS6.out.upon hb5)
                have HX5 : Hid (∀ t ∈ rs6, TgOk w5 w5.heap.size t) := fun t ht => (hX6.out t ht).on hb5
                have HQ5 := Lib.hid (HQR.out.on hb5)
                have HB5 : Hid (Below w2.heap.size w2 w5) := hBw.out.trans (hb5.mono hzr)
                have g0 : w5.cell? ⟨b2, o2 + j * 4, none⟩ = some (.int .i64 r.kind) := (hb5.cell (by show b2 < _; omega)).trans z0
                have g2 : w5.cell? ⟨b2, o2 + j * 4 + 2, none⟩ = some (.slice r.dA r.dn r.dc) := (hb5.cell (by show b2 < _; omega)).trans z2
                have g3 : w5.cell? ⟨b2, o2 + j * 4 + 3, none⟩ = some (.slice r.vA r.vn r.vc) := (hb5.cell (by show b2 < _; omega)).trans z3
                clear z0 z1 z2 z3 y0 hb5 HJ
                go_wp2_with fail
                have HAD : Hid (∀ W, Below w5.heap.size w5 W → Calls Tryz.prog 102 #[.slice A6 m6 c6, .agg #[.string lb, .int .i64 r.kind, .slice r.dA r.dn r.dc, .slice r.vA r.vn r.vc]] W (AddEnd rs6 ⟨lb, r.kind, r.dA, r.dn, r.dc, r.deps, r.vA, r.vn, r.vc, r.vis⟩ W)) := fun W hb => radd_any A6 m6 c6 W.heap.size rs6 ⟨lb, r.kind, r.dA, r.dn, r.dc, r.deps, r.vA, r.vn, r.vc, r.vis⟩ W (HS5.out.upon hb) (Nat.le_refl _) hmc6 hcm6 (by omega)
                have HSP : Hid (∀ x ∈ [(18, AdV rs6 ⟨lb, r.kind, r.dA, r.dn, r.dc, r.deps, r.vA, r.vn, r.vc, r.vis⟩)], ∀ v W W', x.2 v W → Below W.heap.size W W' → x.2 v W') := fun x hx v W W' h hb => by
                  rw [List.mem_singleton.1 hx] at h ⊢
                  exact AdV.on h hb
                have hLB : Hid (lb.size ≤ 1000) := hlz2
                clear hlz2
                refine wp_region_stableGD 19 (87 :: 88 :: 89 :: 90 :: 91 :: 92 :: 93 :: 94 :: 95 :: 96 :: 97 :: 98 :: 99 :: 100 :: 101 :: 102 :: 103 :: 104 :: 105 :: []) (by kernel_rfl) (by kernel_rfl) (by kernel_rfl) (fun W => Below w5.heap.size w5 W) (fun W W' => Below W.heap.size W W')
                  (gPhi [(18, AdV rs6 ⟨lb, r.kind, r.dA, r.dn, r.dc, r.deps, r.vA, r.vn, r.vc, r.vis⟩)] ((.slice A6 m6 c6) :: (.string lb) :: (.slice (some ⟨b2, o2, none⟩) n8 c8) :: (.int .i64 j) :: (.pointer (some ⟨b2, o2 + j * 4, none⟩)) :: (.pointer (some ⟨b2, o2 + j * 4, none⟩)) :: (.int .i64 r.kind) :: (.slice (some ⟨b2, o2, none⟩) n8 c8) :: (.int .i64 j) :: (.pointer (some ⟨b2, o2 + j * 4, none⟩)) :: (.pointer (some ⟨b2, o2 + j * 4 + 2, none⟩)) :: (.slice r.dA r.dn r.dc) :: (.slice (some ⟨b2, o2, none⟩) n8 c8) :: (.int .i64 j) :: (.pointer (some ⟨b2, o2 + j * 4, none⟩)) :: (.pointer (some ⟨b2, o2 + j * 4 + 3, none⟩)) :: (.slice r.vA r.vn r.vc) :: (.agg #[.string lb, .int .i64 r.kind, .slice r.dA r.dn r.dc, .slice r.vA r.vn r.vc]) :: (undef) :: [])) (fun W W' h1 h2 => h1.trans (h2.mono h1.size)) (fun i v W W' h hb => gPhi_keep HSP.out i v W W' h hb) (Below.refl _ _).drew ?stepA ?tailA
                case stepA =>
                  intro i o vs W hi ho hv hR hphi
                  obtain ⟨v0, v1, v2, v3, v4, v5, v6, v7, v8, v9, v10, v11, v12, v13, v14, v15, v16, v17, v18, rfl⟩ := ls19 hv
                  simp only [List.zip, List.zipWith, putAll, Act.put, List.setIfInBounds_toArray, List.set]
                  have hWz := hR.size
                  have u0 := (hR.cell (p := ⟨b2, o2 + j * 4, none⟩) (by show b2 < _; omega)).trans g0
                  have u2 := (hR.cell (p := ⟨b2, o2 + j * 4 + 2, none⟩) (by show b2 < _; omega)).trans g2
                  have u3 := (hR.cell (p := ⟨b2, o2 + j * 4 + 3, none⟩) (by show b2 < _; omega)).trans g3
                  match i, hi, ho with
                  | 0, _, rfl =>
                    exact .inl ⟨rfl, gives_value (v := .slice A6 m6 c6) (w' := W) (by go_simp) ⟨Below.refl _ _, fun u hu => by cases hu; rfl⟩⟩
                  | 1, _, rfl =>
                    exact .inl ⟨rfl, gives_value (v := .string lb) (w' := W) (by go_simp) ⟨Below.refl _ _, fun u hu => by cases hu; rfl⟩⟩
                  | 2, _, rfl =>
                    exact .inl ⟨rfl, gives_value (v := .slice (some ⟨b2, o2, none⟩) n8 c8) (w' := W) (by go_simp) ⟨Below.refl _ _, fun u hu => by cases hu; rfl⟩⟩
                  | 3, _, rfl =>
                    exact .inl ⟨rfl, gives_value (v := .int .i64 j) (w' := W) (by go_simp) ⟨Below.refl _ _, fun u hu => by cases hu; rfl⟩⟩
                  | 4, _, rfl =>
                    have e2 : v2 = _ := hphi ⟨2, .data⟩ (by simp) rfl v2 rfl _ rfl
                    have e3 : v3 = _ := hphi ⟨3, .data⟩ (by simp) rfl v3 rfl _ rfl
                    subst e2 e3
                    exact .inl ⟨rfl, gives_value (v := .pointer (some ⟨b2, o2 + j * 4, none⟩)) (w' := W) (by go_simp) ⟨Below.refl _ _, fun u hu => by cases hu; rfl⟩⟩
                  | 5, _, rfl =>
                    have e4 : v4 = _ := hphi ⟨4, .data⟩ (by simp) rfl v4 rfl _ rfl
                    subst e4
                    exact .inl ⟨rfl, gives_value (v := .pointer (some ⟨b2, o2 + j * 4, none⟩)) (w' := W) (by go_simp) ⟨Below.refl _ _, fun u hu => by cases hu; rfl⟩⟩
                  | 6, _, rfl =>
                    have e5 : v5 = _ := hphi ⟨5, .data⟩ (by simp) rfl v5 rfl _ rfl
                    subst e5
                    exact .inl ⟨rfl, gives_value (v := .int .i64 r.kind) (w' := W) (by go_simp) ⟨Below.refl _ _, fun u hu => by cases hu; rfl⟩⟩
                  | 7, _, rfl =>
                    exact .inl ⟨rfl, gives_value (v := .slice (some ⟨b2, o2, none⟩) n8 c8) (w' := W) (by go_simp) ⟨Below.refl _ _, fun u hu => by cases hu; rfl⟩⟩
                  | 8, _, rfl =>
                    exact .inl ⟨rfl, gives_value (v := .int .i64 j) (w' := W) (by go_simp) ⟨Below.refl _ _, fun u hu => by cases hu; rfl⟩⟩
                  | 9, _, rfl =>
                    have e7 : v7 = _ := hphi ⟨7, .data⟩ (by simp) rfl v7 rfl _ rfl
                    have e8 : v8 = _ := hphi ⟨8, .data⟩ (by simp) rfl v8 rfl _ rfl
                    subst e7 e8
                    exact .inl ⟨rfl, gives_value (v := .pointer (some ⟨b2, o2 + j * 4, none⟩)) (w' := W) (by go_simp) ⟨Below.refl _ _, fun u hu => by cases hu; rfl⟩⟩
                  | 10, _, rfl =>
                    have e9 : v9 = _ := hphi ⟨9, .data⟩ (by simp) rfl v9 rfl _ rfl
                    subst e9
                    exact .inl ⟨rfl, gives_value (v := .pointer (some ⟨b2, o2 + j * 4 + 2, none⟩)) (w' := W) (by go_simp) ⟨Below.refl _ _, fun u hu => by cases hu; rfl⟩⟩
                  | 11, _, rfl =>
                    have e10 : v10 = _ := hphi ⟨10, .data⟩ (by simp) rfl v10 rfl _ rfl
                    subst e10
                    exact .inl ⟨rfl, gives_value (v := .slice r.dA r.dn r.dc) (w' := W) (by go_simp) ⟨Below.refl _ _, fun u hu => by cases hu; rfl⟩⟩
                  | 12, _, rfl =>
                    exact .inl ⟨rfl, gives_value (v := .slice (some ⟨b2, o2, none⟩) n8 c8) (w' := W) (by go_simp) ⟨Below.refl _ _, fun u hu => by cases hu; rfl⟩⟩
                  | 13, _, rfl =>
                    exact .inl ⟨rfl, gives_value (v := .int .i64 j) (w' := W) (by go_simp) ⟨Below.refl _ _, fun u hu => by cases hu; rfl⟩⟩
                  | 14, _, rfl =>
                    have e12 : v12 = _ := hphi ⟨12, .data⟩ (by simp) rfl v12 rfl _ rfl
                    have e13 : v13 = _ := hphi ⟨13, .data⟩ (by simp) rfl v13 rfl _ rfl
                    subst e12 e13
                    exact .inl ⟨rfl, gives_value (v := .pointer (some ⟨b2, o2 + j * 4, none⟩)) (w' := W) (by go_simp) ⟨Below.refl _ _, fun u hu => by cases hu; rfl⟩⟩
                  | 15, _, rfl =>
                    have e14 : v14 = _ := hphi ⟨14, .data⟩ (by simp) rfl v14 rfl _ rfl
                    subst e14
                    exact .inl ⟨rfl, gives_value (v := .pointer (some ⟨b2, o2 + j * 4 + 3, none⟩)) (w' := W) (by go_simp) ⟨Below.refl _ _, fun u hu => by cases hu; rfl⟩⟩
                  | 16, _, rfl =>
                    have e15 : v15 = _ := hphi ⟨15, .data⟩ (by simp) rfl v15 rfl _ rfl
                    subst e15
                    exact .inl ⟨rfl, gives_value (v := .slice r.vA r.vn r.vc) (w' := W) (by go_simp) ⟨Below.refl _ _, fun u hu => by cases hu; rfl⟩⟩
                  | 17, _, rfl =>
                    have e1 : v1 = _ := hphi ⟨1, .data⟩ (by simp) rfl v1 rfl _ rfl
                    have e6 : v6 = _ := hphi ⟨6, .data⟩ (by simp) rfl v6 rfl _ rfl
                    have e11 : v11 = _ := hphi ⟨11, .data⟩ (by simp) rfl v11 rfl _ rfl
                    have e16 : v16 = _ := hphi ⟨16, .data⟩ (by simp) rfl v16 rfl _ rfl
                    subst e1 e6 e11 e16
                    exact .inl ⟨rfl, gives_value (v := .agg #[.string lb, .int .i64 r.kind, .slice r.dA r.dn r.dc, .slice r.vA r.vn r.vc]) (w' := W) (by go_simp) ⟨Below.refl _ _, fun u hu => by cases hu; rfl⟩⟩
                  | 18, _, rfl =>
                    have e0 : v0 = _ := hphi ⟨0, .data⟩ (by simp) rfl v0 rfl _ rfl
                    have e17 : v17 = _ := hphi ⟨17, .data⟩ (by simp) rfl v17 rfl _ rfl
                    subst e0 e17
                    refine .inl ⟨rfl, gives_call (f := 102) (args := #[.slice A6 m6 c6, .agg #[.string lb, .int .i64 r.kind, .slice r.dA r.dn r.dc, .slice r.vA r.vn r.vc]]) (by go_simp) ((HAD.out W hR).mono ?_)⟩
                    rintro e W' ⟨A7, c7, rs7, rfl, hs7, hc7, hm7, hn7, hx7, hb7⟩
                    exact ⟨_, rfl, hb7, ⟨A7, c7, rs7, rfl, hs7, hc7, hm7, hn7, hx7⟩⟩
                  | i + 19, hi, _ => exact absurd hi (by omega)
                case tailA =>
                  intro vs W hv hR hphi
                  obtain ⟨v0, v1, v2, v3, v4, v5, v6, v7, v8, v9, v10, v11, v12, v13, v14, v15, v16, v17, v18, rfl⟩ := ls19 hv
                  simp only [List.zip, List.zipWith, putAll, Act.put, List.setIfInBounds_toArray, List.set, List.drop]
                  have e0 : v0 = _ := hphi 0 v0 rfl _ rfl
                  have e1 : v1 = _ := hphi 1 v1 rfl _ rfl
                  have e2 : v2 = _ := hphi 2 v2 rfl _ rfl
                  have e3 : v3 = _ := hphi 3 v3 rfl _ rfl
                  have e4 : v4 = _ := hphi 4 v4 rfl _ rfl
                  have e5 : v5 = _ := hphi 5 v5 rfl _ rfl
                  have e6 : v6 = _ := hphi 6 v6 rfl _ rfl
                  have e7 : v7 = _ := hphi 7 v7 rfl _ rfl
                  have e8 : v8 = _ := hphi 8 v8 rfl _ rfl
                  have e9 : v9 = _ := hphi 9 v9 rfl _ rfl
                  have e10 : v10 = _ := hphi 10 v10 rfl _ rfl
                  have e11 : v11 = _ := hphi 11 v11 rfl _ rfl
                  have e12 : v12 = _ := hphi 12 v12 rfl _ rfl
                  have e13 : v13 = _ := hphi 13 v13 rfl _ rfl
                  have e14 : v14 = _ := hphi 14 v14 rfl _ rfl
                  have e15 : v15 = _ := hphi 15 v15 rfl _ rfl
                  have e16 : v16 = _ := hphi 16 v16 rfl _ rfl
                  have e17 : v17 = _ := hphi 17 v17 rfl _ rfl
                  have e18 : (AdV rs6 ⟨lb, r.kind, r.dA, r.dn, r.dc, r.deps, r.vA, r.vn, r.vc, r.vis⟩) v18 W := hphi 18 v18 rfl
                  subst e0 e1 e2 e3 e4 e5 e6 e7 e8 e9 e10 e11 e12 e13 e14 e15 e16 e17
                  clear hphi hv
                  obtain ⟨A7, c7, rs7, rfl, hs7, hc7, hm7, hn7, hx7⟩ := e18
                  rw [HR6.out] at hs7 hn7 ⊢
                  have HS7 := Lib.hid hs7
                  have HC7 : Hid (rs7.map ct = allC [] (ds ++ ((qs.take (j + 1)).map (jnT d)).map ct)) := by
                    show _ = _
                    rw [hc7, hC6.out, take_snoc HR.out, List.map_append, List.map_append, ← List.append_assoc]
                    simp only [List.map_cons, List.map_nil]
                    rw [allC_snoc]
                    unfold jnT
                    rw [HLB.out]
                  have HX7 : Hid (∀ t ∈ rs7, TgOk W W.heap.size t) := fun t ht => by
                    rcases hm7 t ht with h | rfl
                    · exact (HX5.out t h).on hR
                    · have h := HQ5.out.on hR
                      exact ⟨h.d, h.dle, h.dmax, h.v, h.vle, h.vmax, by show lb.size ≤ maxLen; unfold maxLen; have := hLB.out; omega, h.ds, h.vs⟩
                  have HB7 : Hid (Below w2.heap.size w2 W) := HB5.out.trans (hR.mono (by omega))
                  clear hs7 hc7 hm7 hR g0 g2 g3
                  go_wp2_with fail
                  go_roundw
                  case rel => exact ⟨j + 1, A7, m6 + 1, c7, rs7, rfl, by go_num, hjt, by show _ = _; have := hM6.out; omega, hn7, hx7, HS7.out, HX7.out, HC7.out, HZ2.out, HB7.out⟩
                  case measure => simp [intOf]; omega
              · have HLF : Hid (lfE d (qs.map ct) = joiE d r.lab) := lfE_at hZ.out HR.out hje
                have HL4 : Hid (lfE d (qs.map ct) = 4) := lfE_four HNE.out (parR_ruleC HPR.out) (by rw [HLF.out]; exact hje)
                have HG := Lib.hid (hP.out.bad HF.out HBL.out (HLC.out [] 4 ⟨_, _, _, HPR.out, .inr (.inl ⟨rfl, by rw [HL4.out]; decide, rfl, HL4.out.symm⟩)⟩) (by decide))
                have hj' : (joiE d r.lab != 0) = true := by simpa using hje
                obtain ⟨v, hve⟩ : ∃ v, joiE d r.lab = v := ⟨_, rfl⟩
                rw [hve] at hj'
                have HVE := Lib.hid hve
                clear hje hve HLF HL4
                go_wp2_with (go_at_call 101; refine HJ.out.mono ?_; rintro e w5 ⟨rfl, hb5⟩; rw [HVE.out]; refine halt_ ?_)
                refine unhalt ?_
                have y5 : w5.cell? ⟨bb, off + k * 2, none⟩ = some (.string f.1) := (hb5.cell (by show bb < _; omega)).trans y0
                have HB5 : Hid (Below w.heap.size w w5) := HB2.out.trans ((hBw.out.trans (hb5.mono hzr)).mono (by omega))
                clear hb5 y0 z0 z1 z2 z3
                go_wp2_with fail
                go_quiet (fail)
                go_wp2_with fail
                exact bodyPost_ret (resultsTgs rfl rfl rfl) rfl (TgsEnd.none_ (.inl ⟨_, _, HG.out, rfl, rfl, rfl⟩) (below_drewN HB5.out _))
            · have hjz : ¬ (j : Int) < (n8 : Int) := by omega
              obtain rfl : j = n8 := by omega
              have HT : Hid (qs.take j = qs) := List.take_of_length_le (by rw [HLN.out]; exact Nat.le_refl _)
              have hC2 := hC6.out
              have hZ2 := hZ.out
              rw [HT.out] at hC2 hZ2
              rw [ct_jn] at hC2
              have HC2 := Lib.hid hC2
              have HP2 := Lib.hid (hP.out.add HF.out HBL.out (HLC.out _ 0 ⟨_, _, _, HPR.out, .inr (.inr ⟨rfl, lfE_all hZ2, rfl, rfl⟩)⟩))
              have HB6 : Hid (Below w.heap.size w wr) := HB2.out.trans (hBw.out.mono (by omega))
              clear hC2 hZ2
              go_wp2_with fail
              go_roundw
              case rel => exact ⟨k + 1, A6, m6, c6, rs6, _, rfl, by go_num, hlt, by have := hM6.out; omega, hmc6, hcm6, hS6.out, hX6.out, HC2.out, HP2.out, HB6.out⟩
              case measure => simp [intOf]; omega
        · have HNE : Hid (¬ (d ≠ ⟨#[]⟩ ∧ labB d = false)) := fun h => by rw [hl] at h; cases h.2
          have HLC := Lib.hid (HLR.out HNE.out)
          rw [decide_eq_false e1] at h1
          rw [hl] at HLAB
          clear e1 hl HLR HL6
          go_wp2_with (go_at_call 99; refine HLAB.out.mono ?_; rintro e w1 ⟨rfl, rfl⟩; refine halt_ ?_)
          refine unhalt ?_
          clear HLAB
          go_wp2_with (go_at_call 100; refine HPA.out.mono ?_; rintro e w2 ⟨A8, n8, c8, at_, err, qs, rfl, hsl, hok, hnc8, hcm8, hpr, hb2⟩; refine halt_ ?_)
          refine unhalt ?_
          have HS2 := Lib.hid hsl; have HPR := Lib.hid hpr
          have HQ2 : Hid (∀ t ∈ qs, TgOk w2 w2.heap.size t) := fun t ht => (hok t ht).ok
          have HSr2 := Lib.hid (hS.out.upon hb2)
          have HX2 : Hid (∀ t ∈ rs, TgOk w2 w2.heap.size t) := fun t ht => (hX.out t ht).on hb2
          have HB2 : Hid (Below w.heap.size w w2) := hBel.out.trans (hb2.mono hbw)
          have hz2 := hb2.size
          have HLN := Lib.hid (hsl.len rlC_len (by omega))
          have y0' : w2.cell? ⟨bb, off + k * 2, none⟩ = some (.string f.1) := hb2.cell (by show bb < _; omega) |>.trans y0
          have HY := Lib.hid y0'
          clear hsl hok hpr hb2 HPA y0 y1 y0'
          have y0 := HY.out
          by_cases he : err = 0
          rotate_left
          · have he' : (err != 0) = true := by simpa using he
            have HG := Lib.hid (hP.out.bad HF.out HBL.out (HLC.out [] err ⟨_, _, _, HPR.out, .inl ⟨he, rfl, rfl⟩⟩) he)
            clear he
            go_wp2_with fail
            go_quiet (fail)
            go_wp2_with fail
            exact bodyPost_ret (resultsTgs rfl rfl rfl) rfl (TgsEnd.none_ (.inl ⟨_, _, HG.out, rfl, rfl, rfl⟩) (below_drewN HB2.out _))
          subst he
          have hru := parR_rules HPR.out
          have hn100 : n8 ≤ 100 := by rw [← HLN.out]; exact hru.1
          have HRU := Lib.hid hru.2
          clear hru y0
          go_wp2_with fail
          go_loopw [5, 11] (fun o i wq => ∃ (j : Nat) (A6 : Option Addr) (m6 c6 : Nat) (rs6 : List Tg), o = .slice A6 m6 c6 ∧ i = .int .i64 (j : Int) ∧ j ≤ n8 ∧ Hid (m6 = m + j) ∧ m6 ≤ c6 ∧ c6 ≤ maxLen ∧ Hid (Sl wq wq.heap.size 4 A6 m6 (flat tgC rs6)) ∧ Hid (∀ t ∈ rs6, TgOk wq wq.heap.size t) ∧ Hid (rs6.map ct = allC [] (ds ++ ((qs.take j).map (jnT d)).map ct)) ∧ Hid (∀ r ∈ qs.take j, joiE d r.lab = 0) ∧ Hid (Below w2.heap.size w2 wq)) (fun _ i _ => n8 - (intOf i).toNat)
          case atStart => exact ⟨0, A5, m, c5, rs, rfl, rfl, Nat.zero_le _, rfl, hmc, hcm, HSr2.out, HX2.out, by show _ = _; rw [hC.out]; simp, (fun r h => by simp at h), Below.refl _ _⟩
          case round =>
            obtain ⟨j, A6, m6, c6, rs6, rfl, rfl, hj, hM6, hmc6, hcm6, hS6, hX6, hC6, hZ, hBw⟩ := hrel
            have hzr := hBw.out.size
            have hm6b : m6 ≤ 200000 := by have := hM6.out; omega
            have HR6 := Lib.hid (hS6.out.len tgC_len (by omega))
            by_cases hjt : j < n8
            · obtain ⟨b2, o2, r, rfl, hb2, hr, z0, z1, z2, z3⟩ := (HS2.out.below hBw.out (Nat.le_refl _)).rl hjt
              have hjz : (j : Int) < (n8 : Int) := by omega
              have hrs : r.lab.size ≤ 90 := freB_size (ruleE_ok (HRU.out r (List.mem_of_getElem? hr))).1
              have HR := Lib.hid hr
              have HQR : Hid (TgOk wr wr.heap.size r) := by
                have h := HQ2.out r (List.mem_of_getElem? hr)
                exact h.on hBw.out
              have HJ := Lib.hid (rjoin_any d r.lab wr (by omega) (by omega))
              have y0 : wr.cell? ⟨bb, off + k * 2, none⟩ = some (.string f.1) := (hBw.out.cell (by show bb < _; omega)).trans HY.out
              clear hr
              by_cases hje : joiE d r.lab = 0
              · have HJE := Lib.hid hje
                have HZ2 : Hid (∀ q ∈ qs.take (j + 1), joiE d q.lab = 0) := fun q hq => by
                  rw [take_snoc HR.out] at hq
                  rcases List.mem_append.1 hq with hq | hq
                  · exact hZ.out q hq
                  · rw [List.mem_singleton.1 hq]; exact HJE.out
                obtain ⟨lb, hlb⟩ : ∃ lb, joiS d r.lab = lb := ⟨_, rfl⟩
                have HJV : Hid (joiV d r.lab = lb) := (if_pos hje).trans hlb
                have hlz2 : lb.size ≤ 1000 := by
                  rw [← hlb]; unfold joiS
                  split
                  · omega
                  · rw [ByteArray.size_append, ByteArray.size_append]; have : slW.size = 1 := rfl; omega
                have HLB := Lib.hid hlb
                clear hje hlb
                go_wp2_with (go_at_call 101; refine HJ.out.mono ?_; rintro e w5 ⟨rfl, hb5⟩; rw [HJE.out, HJV.out]; refine halt_ ?_)
                refine unhalt ?_
                have hz5 := hb5.size
                have HS5 := Lib.hid (hS6.out.upon hb5)
                have HX5 : Hid (∀ t ∈ rs6, TgOk w5 w5.heap.size t) := fun t ht => (hX6.out t ht).on hb5
                have HQ5 := Lib.hid (HQR.out.on hb5)
                have HB5 : Hid (Below w2.heap.size w2 w5) := hBw.out.trans (hb5.mono hzr)
                have g0 : w5.cell? ⟨b2, o2 + j * 4, none⟩ = some (.int .i64 r.kind) := (hb5.cell (by show b2 < _; omega)).trans z0
                have g2 : w5.cell? ⟨b2, o2 + j * 4 + 2, none⟩ = some (.slice r.dA r.dn r.dc) := (hb5.cell (by show b2 < _; omega)).trans z2
                have g3 : w5.cell? ⟨b2, o2 + j * 4 + 3, none⟩ = some (.slice r.vA r.vn r.vc) := (hb5.cell (by show b2 < _; omega)).trans z3
                clear z0 z1 z2 z3 y0 hb5 HJ
                go_wp2_with fail
                have HAD : Hid (∀ W, Below w5.heap.size w5 W → Calls Tryz.prog 102 #[.slice A6 m6 c6, .agg #[.string lb, .int .i64 r.kind, .slice r.dA r.dn r.dc, .slice r.vA r.vn r.vc]] W (AddEnd rs6 ⟨lb, r.kind, r.dA, r.dn, r.dc, r.deps, r.vA, r.vn, r.vc, r.vis⟩ W)) := fun W hb => radd_any A6 m6 c6 W.heap.size rs6 ⟨lb, r.kind, r.dA, r.dn, r.dc, r.deps, r.vA, r.vn, r.vc, r.vis⟩ W (HS5.out.upon hb) (Nat.le_refl _) hmc6 hcm6 (by omega)
                have HSP : Hid (∀ x ∈ [(18, AdV rs6 ⟨lb, r.kind, r.dA, r.dn, r.dc, r.deps, r.vA, r.vn, r.vc, r.vis⟩)], ∀ v W W', x.2 v W → Below W.heap.size W W' → x.2 v W') := fun x hx v W W' h hb => by
                  rw [List.mem_singleton.1 hx] at h ⊢
                  exact AdV.on h hb
                have hLB : Hid (lb.size ≤ 1000) := hlz2
                clear hlz2
                refine wp_region_stableGD 19 (87 :: 88 :: 89 :: 90 :: 91 :: 92 :: 93 :: 94 :: 95 :: 96 :: 97 :: 98 :: 99 :: 100 :: 101 :: 102 :: 103 :: 104 :: 105 :: []) (by kernel_rfl) (by kernel_rfl) (by kernel_rfl) (fun W => Below w5.heap.size w5 W) (fun W W' => Below W.heap.size W W')
                  (gPhi [(18, AdV rs6 ⟨lb, r.kind, r.dA, r.dn, r.dc, r.deps, r.vA, r.vn, r.vc, r.vis⟩)] ((.slice A6 m6 c6) :: (.string lb) :: (.slice (some ⟨b2, o2, none⟩) n8 c8) :: (.int .i64 j) :: (.pointer (some ⟨b2, o2 + j * 4, none⟩)) :: (.pointer (some ⟨b2, o2 + j * 4, none⟩)) :: (.int .i64 r.kind) :: (.slice (some ⟨b2, o2, none⟩) n8 c8) :: (.int .i64 j) :: (.pointer (some ⟨b2, o2 + j * 4, none⟩)) :: (.pointer (some ⟨b2, o2 + j * 4 + 2, none⟩)) :: (.slice r.dA r.dn r.dc) :: (.slice (some ⟨b2, o2, none⟩) n8 c8) :: (.int .i64 j) :: (.pointer (some ⟨b2, o2 + j * 4, none⟩)) :: (.pointer (some ⟨b2, o2 + j * 4 + 3, none⟩)) :: (.slice r.vA r.vn r.vc) :: (.agg #[.string lb, .int .i64 r.kind, .slice r.dA r.dn r.dc, .slice r.vA r.vn r.vc]) :: (undef) :: [])) (fun W W' h1 h2 => h1.trans (h2.mono h1.size)) (fun i v W W' h hb => gPhi_keep HSP.out i v W W' h hb) (Below.refl _ _).drew ?stepB ?tailB
                case stepB =>
                  intro i o vs W hi ho hv hR hphi
                  obtain ⟨v0, v1, v2, v3, v4, v5, v6, v7, v8, v9, v10, v11, v12, v13, v14, v15, v16, v17, v18, rfl⟩ := ls19 hv
                  simp only [List.zip, List.zipWith, putAll, Act.put, List.setIfInBounds_toArray, List.set]
                  have hWz := hR.size
                  have u0 := (hR.cell (p := ⟨b2, o2 + j * 4, none⟩) (by show b2 < _; omega)).trans g0
                  have u2 := (hR.cell (p := ⟨b2, o2 + j * 4 + 2, none⟩) (by show b2 < _; omega)).trans g2
                  have u3 := (hR.cell (p := ⟨b2, o2 + j * 4 + 3, none⟩) (by show b2 < _; omega)).trans g3
                  match i, hi, ho with
                  | 0, _, rfl =>
                    exact .inl ⟨rfl, gives_value (v := .slice A6 m6 c6) (w' := W) (by go_simp) ⟨Below.refl _ _, fun u hu => by cases hu; rfl⟩⟩
                  | 1, _, rfl =>
                    exact .inl ⟨rfl, gives_value (v := .string lb) (w' := W) (by go_simp) ⟨Below.refl _ _, fun u hu => by cases hu; rfl⟩⟩
                  | 2, _, rfl =>
                    exact .inl ⟨rfl, gives_value (v := .slice (some ⟨b2, o2, none⟩) n8 c8) (w' := W) (by go_simp) ⟨Below.refl _ _, fun u hu => by cases hu; rfl⟩⟩
                  | 3, _, rfl =>
                    exact .inl ⟨rfl, gives_value (v := .int .i64 j) (w' := W) (by go_simp) ⟨Below.refl _ _, fun u hu => by cases hu; rfl⟩⟩
                  | 4, _, rfl =>
                    have e2 : v2 = _ := hphi ⟨2, .data⟩ (by simp) rfl v2 rfl _ rfl
                    have e3 : v3 = _ := hphi ⟨3, .data⟩ (by simp) rfl v3 rfl _ rfl
                    subst e2 e3
                    exact .inl ⟨rfl, gives_value (v := .pointer (some ⟨b2, o2 + j * 4, none⟩)) (w' := W) (by go_simp) ⟨Below.refl _ _, fun u hu => by cases hu; rfl⟩⟩
                  | 5, _, rfl =>
                    have e4 : v4 = _ := hphi ⟨4, .data⟩ (by simp) rfl v4 rfl _ rfl
                    subst e4
                    exact .inl ⟨rfl, gives_value (v := .pointer (some ⟨b2, o2 + j * 4, none⟩)) (w' := W) (by go_simp) ⟨Below.refl _ _, fun u hu => by cases hu; rfl⟩⟩
                  | 6, _, rfl =>
                    have e5 : v5 = _ := hphi ⟨5, .data⟩ (by simp) rfl v5 rfl _ rfl
                    subst e5
                    exact .inl ⟨rfl, gives_value (v := .int .i64 r.kind) (w' := W) (by go_simp) ⟨Below.refl _ _, fun u hu => by cases hu; rfl⟩⟩
                  | 7, _, rfl =>
                    exact .inl ⟨rfl, gives_value (v := .slice (some ⟨b2, o2, none⟩) n8 c8) (w' := W) (by go_simp) ⟨Below.refl _ _, fun u hu => by cases hu; rfl⟩⟩
                  | 8, _, rfl =>
                    exact .inl ⟨rfl, gives_value (v := .int .i64 j) (w' := W) (by go_simp) ⟨Below.refl _ _, fun u hu => by cases hu; rfl⟩⟩
                  | 9, _, rfl =>
                    have e7 : v7 = _ := hphi ⟨7, .data⟩ (by simp) rfl v7 rfl _ rfl
                    have e8 : v8 = _ := hphi ⟨8, .data⟩ (by simp) rfl v8 rfl _ rfl
                    subst e7 e8
                    exact .inl ⟨rfl, gives_value (v := .pointer (some ⟨b2, o2 + j * 4, none⟩)) (w' := W) (by go_simp) ⟨Below.refl _ _, fun u hu => by cases hu; rfl⟩⟩
                  | 10, _, rfl =>
                    have e9 : v9 = _ := hphi ⟨9, .data⟩ (by simp) rfl v9 rfl _ rfl
                    subst e9
                    exact .inl ⟨rfl, gives_value (v := .pointer (some ⟨b2, o2 + j * 4 + 2, none⟩)) (w' := W) (by go_simp) ⟨Below.refl _ _, fun u hu => by cases hu; rfl⟩⟩
                  | 11, _, rfl =>
                    have e10 : v10 = _ := hphi ⟨10, .data⟩ (by simp) rfl v10 rfl _ rfl
                    subst e10
                    exact .inl ⟨rfl, gives_value (v := .slice r.dA r.dn r.dc) (w' := W) (by go_simp) ⟨Below.refl _ _, fun u hu => by cases hu; rfl⟩⟩
                  | 12, _, rfl =>
                    exact .inl ⟨rfl, gives_value (v := .slice (some ⟨b2, o2, none⟩) n8 c8) (w' := W) (by go_simp) ⟨Below.refl _ _, fun u hu => by cases hu; rfl⟩⟩
                  | 13, _, rfl =>
                    exact .inl ⟨rfl, gives_value (v := .int .i64 j) (w' := W) (by go_simp) ⟨Below.refl _ _, fun u hu => by cases hu; rfl⟩⟩
                  | 14, _, rfl =>
                    have e12 : v12 = _ := hphi ⟨12, .data⟩ (by simp) rfl v12 rfl _ rfl
                    have e13 : v13 = _ := hphi ⟨13, .data⟩ (by simp) rfl v13 rfl _ rfl
                    subst e12 e13
                    exact .inl ⟨rfl, gives_value (v := .pointer (some ⟨b2, o2 + j * 4, none⟩)) (w' := W) (by go_simp) ⟨Below.refl _ _, fun u hu => by cases hu; rfl⟩⟩
                  | 15, _, rfl =>
                    have e14 : v14 = _ := hphi ⟨14, .data⟩ (by simp) rfl v14 rfl _ rfl
                    subst e14
                    exact .inl ⟨rfl, gives_value (v := .pointer (some ⟨b2, o2 + j * 4 + 3, none⟩)) (w' := W) (by go_simp) ⟨Below.refl _ _, fun u hu => by cases hu; rfl⟩⟩
                  | 16, _, rfl =>
                    have e15 : v15 = _ := hphi ⟨15, .data⟩ (by simp) rfl v15 rfl _ rfl
                    subst e15
                    exact .inl ⟨rfl, gives_value (v := .slice r.vA r.vn r.vc) (w' := W) (by go_simp) ⟨Below.refl _ _, fun u hu => by cases hu; rfl⟩⟩
                  | 17, _, rfl =>
                    have e1 : v1 = _ := hphi ⟨1, .data⟩ (by simp) rfl v1 rfl _ rfl
                    have e6 : v6 = _ := hphi ⟨6, .data⟩ (by simp) rfl v6 rfl _ rfl
                    have e11 : v11 = _ := hphi ⟨11, .data⟩ (by simp) rfl v11 rfl _ rfl
                    have e16 : v16 = _ := hphi ⟨16, .data⟩ (by simp) rfl v16 rfl _ rfl
                    subst e1 e6 e11 e16
                    exact .inl ⟨rfl, gives_value (v := .agg #[.string lb, .int .i64 r.kind, .slice r.dA r.dn r.dc, .slice r.vA r.vn r.vc]) (w' := W) (by go_simp) ⟨Below.refl _ _, fun u hu => by cases hu; rfl⟩⟩
                  | 18, _, rfl =>
                    have e0 : v0 = _ := hphi ⟨0, .data⟩ (by simp) rfl v0 rfl _ rfl
                    have e17 : v17 = _ := hphi ⟨17, .data⟩ (by simp) rfl v17 rfl _ rfl
                    subst e0 e17
                    refine .inl ⟨rfl, gives_call (f := 102) (args := #[.slice A6 m6 c6, .agg #[.string lb, .int .i64 r.kind, .slice r.dA r.dn r.dc, .slice r.vA r.vn r.vc]]) (by go_simp) ((HAD.out W hR).mono ?_)⟩
                    rintro e W' ⟨A7, c7, rs7, rfl, hs7, hc7, hm7, hn7, hx7, hb7⟩
                    exact ⟨_, rfl, hb7, ⟨A7, c7, rs7, rfl, hs7, hc7, hm7, hn7, hx7⟩⟩
                  | i + 19, hi, _ => exact absurd hi (by omega)
                case tailB =>
                  intro vs W hv hR hphi
                  obtain ⟨v0, v1, v2, v3, v4, v5, v6, v7, v8, v9, v10, v11, v12, v13, v14, v15, v16, v17, v18, rfl⟩ := ls19 hv
                  simp only [List.zip, List.zipWith, putAll, Act.put, List.setIfInBounds_toArray, List.set, List.drop]
                  have e0 : v0 = _ := hphi 0 v0 rfl _ rfl
                  have e1 : v1 = _ := hphi 1 v1 rfl _ rfl
                  have e2 : v2 = _ := hphi 2 v2 rfl _ rfl
                  have e3 : v3 = _ := hphi 3 v3 rfl _ rfl
                  have e4 : v4 = _ := hphi 4 v4 rfl _ rfl
                  have e5 : v5 = _ := hphi 5 v5 rfl _ rfl
                  have e6 : v6 = _ := hphi 6 v6 rfl _ rfl
                  have e7 : v7 = _ := hphi 7 v7 rfl _ rfl
                  have e8 : v8 = _ := hphi 8 v8 rfl _ rfl
                  have e9 : v9 = _ := hphi 9 v9 rfl _ rfl
                  have e10 : v10 = _ := hphi 10 v10 rfl _ rfl
                  have e11 : v11 = _ := hphi 11 v11 rfl _ rfl
                  have e12 : v12 = _ := hphi 12 v12 rfl _ rfl
                  have e13 : v13 = _ := hphi 13 v13 rfl _ rfl
                  have e14 : v14 = _ := hphi 14 v14 rfl _ rfl
                  have e15 : v15 = _ := hphi 15 v15 rfl _ rfl
                  have e16 : v16 = _ := hphi 16 v16 rfl _ rfl
                  have e17 : v17 = _ := hphi 17 v17 rfl _ rfl
                  have e18 : (AdV rs6 ⟨lb, r.kind, r.dA, r.dn, r.dc, r.deps, r.vA, r.vn, r.vc, r.vis⟩) v18 W := hphi 18 v18 rfl
                  subst e0 e1 e2 e3 e4 e5 e6 e7 e8 e9 e10 e11 e12 e13 e14 e15 e16 e17
                  clear hphi hv
                  obtain ⟨A7, c7, rs7, rfl, hs7, hc7, hm7, hn7, hx7⟩ := e18
                  rw [HR6.out] at hs7 hn7 ⊢
                  have HS7 := Lib.hid hs7
                  have HC7 : Hid (rs7.map ct = allC [] (ds ++ ((qs.take (j + 1)).map (jnT d)).map ct)) := by
                    show _ = _
                    rw [hc7, hC6.out, take_snoc HR.out, List.map_append, List.map_append, ← List.append_assoc]
                    simp only [List.map_cons, List.map_nil]
                    rw [allC_snoc]
                    unfold jnT
                    rw [HLB.out]
                  have HX7 : Hid (∀ t ∈ rs7, TgOk W W.heap.size t) := fun t ht => by
                    rcases hm7 t ht with h | rfl
                    · exact (HX5.out t h).on hR
                    · have h := HQ5.out.on hR
                      exact ⟨h.d, h.dle, h.dmax, h.v, h.vle, h.vmax, by show lb.size ≤ maxLen; unfold maxLen; have := hLB.out; omega, h.ds, h.vs⟩
                  have HB7 : Hid (Below w2.heap.size w2 W) := HB5.out.trans (hR.mono (by omega))
                  clear hs7 hc7 hm7 hR g0 g2 g3
                  go_wp2_with fail
                  go_roundw
                  case rel => exact ⟨j + 1, A7, m6 + 1, c7, rs7, rfl, by go_num, hjt, by show _ = _; have := hM6.out; omega, hn7, hx7, HS7.out, HX7.out, HC7.out, HZ2.out, HB7.out⟩
                  case measure => simp [intOf]; omega
              · have HLF : Hid (lfE d (qs.map ct) = joiE d r.lab) := lfE_at hZ.out HR.out hje
                have HL4 : Hid (lfE d (qs.map ct) = 4) := lfE_four HNE.out (parR_ruleC HPR.out) (by rw [HLF.out]; exact hje)
                have HG := Lib.hid (hP.out.bad HF.out HBL.out (HLC.out [] 4 ⟨_, _, _, HPR.out, .inr (.inl ⟨rfl, by rw [HL4.out]; decide, rfl, HL4.out.symm⟩)⟩) (by decide))
                have hj' : (joiE d r.lab != 0) = true := by simpa using hje
                obtain ⟨v, hve⟩ : ∃ v, joiE d r.lab = v := ⟨_, rfl⟩
                rw [hve] at hj'
                have HVE := Lib.hid hve
                clear hje hve HLF HL4
                go_wp2_with (go_at_call 101; refine HJ.out.mono ?_; rintro e w5 ⟨rfl, hb5⟩; rw [HVE.out]; refine halt_ ?_)
                refine unhalt ?_
                have y5 : w5.cell? ⟨bb, off + k * 2, none⟩ = some (.string f.1) := (hb5.cell (by show bb < _; omega)).trans y0
                have HB5 : Hid (Below w.heap.size w w5) := HB2.out.trans ((hBw.out.trans (hb5.mono hzr)).mono (by omega))
                clear hb5 y0 z0 z1 z2 z3
                go_wp2_with fail
                go_quiet (fail)
                go_wp2_with fail
                exact bodyPost_ret (resultsTgs rfl rfl rfl) rfl (TgsEnd.none_ (.inl ⟨_, _, HG.out, rfl, rfl, rfl⟩) (below_drewN HB5.out _))
            · have hjz : ¬ (j : Int) < (n8 : Int) := by omega
              obtain rfl : j = n8 := by omega
              have HT : Hid (qs.take j = qs) := List.take_of_length_le (by rw [HLN.out]; exact Nat.le_refl _)
              have hC2 := hC6.out
              have hZ2 := hZ.out
              rw [HT.out] at hC2 hZ2
              rw [ct_jn] at hC2
              have HC2 := Lib.hid hC2
              have HP2 := Lib.hid (hP.out.add HF.out HBL.out (HLC.out _ 0 ⟨_, _, _, HPR.out, .inr (.inr ⟨rfl, lfE_all hZ2, rfl, rfl⟩)⟩))
              have HB6 : Hid (Below w.heap.size w wr) := HB2.out.trans (hBw.out.mono (by omega))
              clear hC2 hZ2
              go_wp2_with fail
              go_roundw
              case rel => exact ⟨k + 1, A6, m6, c6, rs6, _, rfl, by go_num, hlt, by have := hM6.out; omega, hmc6, hcm6, hS6.out, hX6.out, HC2.out, HP2.out, HB6.out⟩
              case measure => simp [intOf]; omega
    · have hlz : ¬ (k : Int) < (n : Int) := by omega
      have HGT : Hid (Gat fs (.inl ds)) := hP.out.done (by rw [HL.out]; omega)
      have HDL : Hid (ds.length = m) := by
        show _ = _
        have h1 := congrArg List.length hC.out
        have h2 := (allC_perm ds []).length_eq
        rw [List.length_map] at h1
        simp at h2
        have := HRL.out; omega
      have HPM : Hid ((rs.map ct).Perm ds) := by
        show List.Perm _ _
        have := allC_perm ds []
        rw [← hC.out, List.nil_append] at this
        exact this
      have HST : Hid (SrtC (rs.map ct)) := by
        show SrtC _
        rw [hC.out]; exact allC_srt ds List.Pairwise.nil
      by_cases hbig : 100 < m
      · have hbz : (100 : Int) < (m : Int) := by omega
        go_wp2_with fail
        exact bodyPost_ret (resultsTgs rfl rfl rfl) rfl (TgsEnd.none_ (.inr ⟨ds, HGT.out, .inl ⟨by rw [HDL.out]; exact hbig, rfl, rfl, rfl⟩⟩) hBel.out)
      · have hbz : ¬ (100 : Int) < (m : Int) := by omega
        go_wp2_with fail
        exact bodyPost_ret (resultsTgs rfl rfl rfl) rfl (⟨A5, m, c5, rs, _, _, rfl, hS.out, hX.out, hmc, hcm, .inr ⟨ds, HGT.out, .inr ⟨by rw [HDL.out]; omega, HPM.out, HST.out, rfl, rfl⟩⟩, hBel.out⟩)
end Go.Proofs.YtddlohbhchjjhaaGreatDoor

namespace Go.Proofs.YtddlohbhchjjhaaGreatDoor
open Go.RowKit Go.Maps

theorem bl_len' (s : ByteArray) : (bl s).length = s.size := (size_len s).symm
theorem size_zero {v : ByteArray} (h : v.size = 0) : v = ⟨#[]⟩ := by
  obtain ⟨a⟩ := v
  have h' : a.size = 0 := h
  rw [Array.size_eq_zero_iff] at h'
  rw [h']
theorem suf47 {v : ByteArray} {m : Nat} (hv : v.size = m + 1) (hm : m < v.size) : Lib.hasSuffix (bl v) [47] = decide (v[m] = 47) := by
  have hl : m < (bl v).length := by rw [bl_len']; exact hm
  have hd : (bl v).drop m = [v[m]] := by
    rw [← List.getElem_cons_drop hl, List.drop_of_length_le (by rw [bl_len']; omega)]
    rfl
  show List.isSuffixOf [47] (bl v) = _
  rw [Bool.eq_iff_iff, List.isSuffixOf_iff_suffix, List.suffix_iff_eq_drop, decide_eq_true_iff]
  rw [show (bl v).length - [(47 : UInt8)].length = m by rw [bl_len']; simp; omega, hd]
  constructor
  · intro h; injection h with h _; exact h.symm
  · intro h; exact congrArg (fun x => [x]) h.symm
theorem suf_nil : Lib.hasSuffix (bl ⟨#[]⟩) [47] = false := by kernel_rfl
set_option maxRecDepth 100000 in
set_option maxHeartbeats 4000000 in
theorem rvisible_any (t : Tg) (fr : ByteArray) (B : Nat) (w : World) (hok : TgOk w B t) (hB : B ≤ w.heap.size) (hl : t.lab.size ≤ 1000000) (hf : fr.size ≤ 1000000) :
    Calls Tryz.prog 18 #[tgV t, .string fr] w (VsbEnd (visT t.lab t.vis fr) w) := by
  have hvl := hok.vlen
  have HVS := Lib.hid hok.vs
  have HV0 := Lib.hid hok.v
  have hvm : t.vn ≤ 9223372036854775807 := by have h1 := hok.vle; have h2 := hok.vmax; unfold maxLen at h2; omega
  clear hok
  obtain ⟨lab, kind, dA, dn, dc, deps, vA, vn, vc, vis⟩ := t
  simp only at hvl HVS HV0 hvm hl ⊢
  unfold tgV
  simp only
  obtain ⟨W0, hW0⟩ : ∃ W0, w.alloc (.cells #[.string lab, .int .i64 kind, .slice dA dn dc, .slice vA vn vc] 35) = W0 := ⟨_, rfl⟩
  have HB0 : Hid (Below w.heap.size w W0) := by rw [← hW0]; exact (Below.refl _ w).alloc (Nat.le_refl _) _
  have HK0 : Hid (Bk W0 w.heap.size 35 #[.string lab, .int .i64 kind, .slice dA dn dc, .slice vA vn vc]) := by rw [← hW0]; exact Bk.new w _ _
  have HV := Lib.hid (HV0.out.below HB0.out hB)
  have HD1 := Lib.hid (rdir_any lab W0 hl)
  have HD2 := Lib.hid (rdir_any fr W0 hf)
  have x0 := HK0.out.cell 0; have x3 := HK0.out.cell 3
  simp at x0 x3
  clear HV0
  go_enter Tryz.func18, Tryz.ntmps18
  have hdd := str_dec (dirS lab) (dirS fr)
  by_cases hd : dirS lab = dirS fr
  · have HR := Lib.hid (vis_dir (vis := vis) hd)
    rw [decide_eq_true hd] at hdd
    clear hd
    rw [← hW0] at x0 x3
    have HW0 := Lib.hid hW0
    clear hW0
    go_wp2_with fail
    rw [HW0.out]
    refine HD1.out.mono ?_
    rintro e w1 ⟨rfl, rfl⟩
    go_wp2_with fail
    refine HD2.out.mono ?_
    rintro e w1 ⟨rfl, rfl⟩
    go_wp2_with fail
    go_ret
    exact ⟨ret_bool HR.out.symm, HB0.out⟩
  · have HR := Lib.hid (vis_nodir (vis := vis) hd)
    rw [decide_eq_false hd] at hdd
    clear hd
    have y0 := x0; have y3 := x3
    rw [← hW0] at x0 x3
    have HW0 := Lib.hid hW0
    clear hW0
    go_wp2_with fail
    rw [HW0.out]
    refine HD1.out.mono ?_
    rintro e w1 ⟨rfl, rfl⟩
    go_wp2_with fail
    refine HD2.out.mono ?_
    rintro e w1 ⟨rfl, rfl⟩
    go_wp2_with fail
    go_loopw [5] (fun i wr => ∃ k : Nat, k ≤ vn ∧ i = .int .i64 k ∧ Hid (∀ y ∈ vis.take k, visP fr y = false) ∧ wr = W0) (fun i _ => vn - (intOf i).toNat)
    case atStart => exact ⟨0, Nat.zero_le _, rfl, fun y hy => by simp at hy, rfl⟩
    case round =>
      obtain ⟨k, hk, rfl, hN, rfl⟩ := hrel
      by_cases hlt : k < vn
      · obtain ⟨b, off, v, rfl, hb, hv, z0⟩ := HV.out.str_at hlt
        have hkz : (k : Int) < (vn : Int) := by omega
        have hvs : v.size ≤ maxLen := HVS.out v (List.mem_of_getElem? hv)
        have HVM := Lib.hid (List.mem_of_getElem? hv)
        have HVK := Lib.hid hv
        have HPR := Lib.hid (begins_any fr v wr hvs)
        clear hv
        unfold maxLen at hvs
        have h1 : (v.toList == [42]) = decide (v = starW) := str_lit v _
        have h2 := str_dec v fr
        have HT : ∀ r, visP fr v = r → Hid (visP fr v = r) := fun r h => h
        have HYes : Hid (visP fr v = true → visT lab vis fr = true) := fun h => by rw [HR.out, List.any_eq_true]; exact ⟨v, HVM.out, h⟩
        have HNo : Hid (visP fr v = false → ∀ y ∈ vis.take (k + 1), visP fr y = false) := any_step hN.out HVK.out
        by_cases e1 : v = starW
        · have hp := HT true (by unfold visP; rw [decide_eq_true e1]; rfl)
          rw [decide_eq_true e1] at h1
          have h1' : (v.toList == [42]) = true := h1
          clear h1 e1 HT
          go_wp2_with fail
          go_ret
          exact ⟨ret_bool (HYes.out hp.out).symm, HB0.out⟩
        · rw [decide_eq_false e1] at h1
          have h1' : (v.toList == [42]) = false := h1
          by_cases e2 : v = fr
          · have hp := HT true (by unfold visP; rw [decide_eq_true e2]; simp)
            rw [decide_eq_true e2] at h2
            clear h1 e1 e2 HT
            go_wp2_with fail
            go_ret
            exact ⟨ret_bool (HYes.out hp.out).symm, HB0.out⟩
          · rw [decide_eq_false e2] at h2
            have hp : visP fr v = (Lib.hasSuffix (bl v) [47] && Lib.hasPrefix (bl fr) (bl v)) := by unfold visP; rw [decide_eq_false e1, decide_eq_false e2]; simp
            have h3 : (v.toList == []) = decide (v = ⟨#[]⟩) := str_lit v _
            by_cases e3 : v = ⟨#[]⟩
            · have hp2 := HT false (by rw [hp, e3, suf_nil]; rfl)
              rw [decide_eq_true e3] at h3
              have h3' : (v.toList == []) = true := h3
              clear h1 e1 e2 HT hp h3 e3
              go_wp2_with fail
              go_roundw
              case rel => exact ⟨k + 1, hlt, by go_num, HNo.out hp2.out, trivial⟩
              case measure => simp [intOf]; omega
            rw [decide_eq_false e3] at h3
            have h3' : (v.toList == []) = false := h3
            have hvp : 0 < v.size := Nat.pos_of_ne_zero fun h0 => e3 (size_zero h0)
            obtain ⟨m, hm⟩ : ∃ m, v.size = m + 1 := ⟨v.size - 1, by omega⟩
            have hml : m < v.size := by omega
            have hw0 : IntKind.i64.wrap ((v.size : Int) - 1) = (m : Int) := by rw [hm, wrap_sm (by omega) (by omega)]; omega
            have hn0 : ¬ (m : Int) < 0 := by omega
            have hl0 : (m : Int) < (v.size : Int) := by omega
            have hs1 := suf47 hm hml
            by_cases h47 : v[m] = 47
            · have t1 : (((v[m].toNat : Nat) : Int) == 47) = true := by simp [h47]
              rw [decide_eq_true h47] at hs1
              cases hq : Lib.hasPrefix (bl fr) (bl v) with
              | false =>
                have hp2 := HT false (by rw [hp, hs1, hq]; rfl)
                have HPR2 : Hid (Calls Tryz.prog 61 #[.string fr, .string v] wr fun e w' => e = .returned (.bool false) ∧ wr = w') := by
                  have := HPR.out; rw [hq] at this; exact this
                clear h1 e1 e2 e3 h3 HT hs1 hp HPR hq h47 hm
                go_wp2_with (go_at_call 61; refine HPR2.out.mono ?_; rintro e w1 ⟨rfl, rfl⟩)
                go_roundw
                case rel => exact ⟨k + 1, hlt, by go_num, HNo.out hp2.out, trivial⟩
                case measure => simp [intOf]; omega
              | true =>
                have hp2 := HT true (by rw [hp, hs1, hq]; rfl)
                have HPR2 : Hid (Calls Tryz.prog 61 #[.string fr, .string v] wr fun e w' => e = .returned (.bool true) ∧ wr = w') := by
                  have := HPR.out; rw [hq] at this; exact this
                clear h1 e1 e2 e3 h3 HT hs1 hp HPR hq h47 hm
                go_wp2_with (go_at_call 61; refine HPR2.out.mono ?_; rintro e w1 ⟨rfl, rfl⟩)
                go_ret
                exact ⟨ret_bool (HYes.out hp2.out).symm, HB0.out⟩
            · have t1 : (((v[m].toNat : Nat) : Int) == 47) = false := by
                rw [beq_eq_false_iff_ne]; intro e
                apply h47
                apply UInt8.toNat_inj.1
                show v[m].toNat = 47
                omega
              rw [decide_eq_false h47] at hs1
              have hp2 := HT false (by rw [hp, hs1]; rfl)
              clear h1 e1 e2 e3 h3 HT hs1 hp HPR h47 hm
              go_wp2_with fail
              go_roundw
              case rel => exact ⟨k + 1, hlt, by go_num, HNo.out hp2.out, trivial⟩
              case measure => simp [intOf]; omega
      · have hkz : ¬ (k : Int) < (vn : Int) := by omega
        have HF : Hid (visT lab vis fr = false) := by
          show _ = _
          rw [HR.out, List.any_eq_false]
          intro y hy
          have := hN.out y (by rw [List.take_of_length_le (by omega)]; exact hy)
          rw [this]; simp
        go_wp2_with fail
        go_ret
        exact ⟨ret_bool HF.out.symm, HB0.out⟩
end Go.Proofs.YtddlohbhchjjhaaGreatDoor

namespace Go.Proofs.YtddlohbhchjjhaaGreatDoor
open Go.RowKit Go.Shelf Go.Maps

set_option maxRecDepth 100000 in
set_option maxHeartbeats 8000000 in
theorem proper_any (A : Option Addr) (n c : Nat) (A1 : Option Addr) (n1 c1 B : Nat) (fs : List Fl) (ts : List Tg) (t : Tg) (w : World) (h0 : Sl w B 2 A n (flat flC fs)) (h1 : Sl w B 4 A1 n1 (flat tgC ts)) (hok : TgOk w B t) (hts : ∀ o ∈ ts, TgOk w B o) (hB : B ≤ w.heap.size) (hn : n ≤ 1000000) (hn1 : n1 ≤ 1000000) (hl : t.lab.size ≤ 1000) (hls : ∀ o ∈ ts, o.lab.size ≤ 1000) (hkd : ∀ o ∈ ts, o.kind = 1 ∨ o.kind = 2) :
    Calls Tryz.prog 56 #[.slice A n c, .slice A1 n1 c1, tgV t] w (CkEnd (ctE (fs.map Prod.fst) ts t) w) := by
  have hDL := hok.dlen
  obtain ⟨lab, kind, dA, dn, dc, deps, vA, vn, vc, vis⟩ := t
  simp only [tgV]
  simp only at hl hDL
  have hdn : dn ≤ maxLen := Nat.le_trans hok.dle hok.dmax
  have hdnm : dn ≤ 9223372036854775807 := by unfold maxLen at hdn; omega
  have HO := Lib.hid hok; have HTS := Lib.hid hts; have HLS := Lib.hid hls; have HKD := Lib.hid hkd; have H1 := Lib.hid h1
  obtain ⟨w0, hw0⟩ : ∃ w0, w.alloc (.cells #[.string lab, .int .i64 kind, .slice dA dn dc, .slice vA vn vc] 35) = w0 := ⟨_, rfl⟩
  have HB0 : Hid (Below w.heap.size w w0) := by show Below _ _ _; rw [← hw0]; exact (Below.refl _ w).alloc (Nat.le_refl _) _
  have HK0 : Hid (Bk w0 w.heap.size 35 #[.string lab, .int .i64 kind, .slice dA dn dc, .slice vA vn vc]) := by rw [← hw0]; exact Bk.new w _ _
  have hz0 : w.heap.size < w0.heap.size := HK0.out.lt
  have y0 := HK0.out.cell 0
  simp only [List.getElem?_toArray, List.getElem?_cons_zero] at y0
  have HFD := Lib.hid (findU9_any A n c B fs (lab ++ pkW) w0 (h0.below HB0.out hB) hn)
  have hsz1 : ¬ (9223372036854775807 < lab.size + pkW.size) := by have : pkW.size = 3 := rfl; omega
  unfold pkW at hsz1
  clear h0 h1 hok hts hls hkd hdn
  cases hm : memB (fs.map Prod.fst) (lab ++ pkW) with
  | false =>
    have HE : Hid (ctE (fs.map Prod.fst) ts ⟨lab, kind, dA, dn, dc, deps, vA, vn, vc, vis⟩ = 8) := if_pos hm
    rw [hm] at HFD
    clear hm
    unfold pkW at HFD
    go_enter Tryz.func56, Tryz.ntmps56
    go_wp2_with fail
    refine HFD.out.mono ?_
    rintro e w1 ⟨⟨d0, rfl⟩, rfl⟩
    go_wp2_with fail
    go_ret
    exact ⟨ret_int HE.out.symm, HB0.out⟩
  | true =>
    have HE0 : Hid (ctE (fs.map Prod.fst) ts ⟨lab, kind, dA, dn, dc, deps, vA, vn, vc, vis⟩ = depE ts lab deps) := if_neg (by simp [hm])
    rw [hm] at HFD
    clear hm
    unfold pkW at HFD
    go_enter Tryz.func56, Tryz.ntmps56
    go_wp2_with (go_at_call 103; refine HFD.out.mono ?_; rintro e w1 ⟨⟨d0, rfl⟩, rfl⟩; refine halt_ ?_)
    refine unhalt ?_
    clear hw0
    go_wp2_with fail
    go_loopw [9] (fun i wr => ∃ k : Nat, i = .int .i64 (k : Int) ∧ k ≤ dn ∧ Hid (depE ts lab deps = depE ts lab (deps.drop k)) ∧ Hid (Below w0.heap.size w0 wr)) (fun i _ => dn - (intOf i).toNat)
    case atStart => exact ⟨0, rfl, Nat.zero_le _, rfl, Below.refl _ _⟩
    case round =>
      obtain ⟨k, rfl, hk, hE, hBw⟩ := hrel
      have hzr := hBw.out.size
      have HBwr : Hid (Below w.heap.size w wr) := HB0.out.trans (hBw.out.mono (by omega))
      have HKr := Lib.hid (HK0.out.below hBw.out hz0)
      have x0 := HKr.out.cell 0; have x2 := HKr.out.cell 2
      simp only [List.getElem?_toArray, List.getElem?_cons_zero, List.getElem?_cons_succ] at x0 x2
      clear y0
      by_cases hlt : k < dn
      · obtain ⟨bb, off, d, rfl, hbB, hd, z0⟩ := (HO.out.d.below HBwr.out hB).str_at hlt
        have hlz : (k : Int) < (dn : Int) := by omega
        have HDE := Lib.hid (depE_at (ts := ts) (lab := lab) hd)
        have HFI := Lib.hid (rfind_any A1 n1 c1 B ts d wr (H1.out.below HBwr.out hB) (by omega))
        clear hd
        cases hf : findT ts d with
        | none =>
          have HE : Hid (ctE (fs.map Prod.fst) ts ⟨lab, kind, some ⟨bb, off, none⟩, dn, dc, deps, vA, vn, vc, vis⟩ = 8) := by show _ = _; rw [HE0.out, hE.out, HDE.out, hf]
          rw [posI_none hf] at HFI
          clear hf HDE
          go_wp2_with fail
          refine HFI.out.mono ?_
          rintro e w1 ⟨rfl, rfl⟩
          go_wp2_with fail
          go_ret
          exact ⟨ret_int HE.out.symm, HBwr.out⟩
        | some o =>
          have hol := findT_lab hf
          have HOO := Lib.hid (HTS.out o hol.2)
          have hos := HLS.out o hol.2
          have hkk := HKD.out o hol.2
          obtain ⟨j, hj, hjo⟩ := posI_some hf
          rw [hj] at HFI
          rw [hf] at HDE
          simp only at HDE
          have hj1 : j < n1 := by
            have h2 := (List.getElem?_eq_some_iff.1 hjo).1
            rw [H1.out.len tgC_len (by omega)] at h2; exact h2
          obtain ⟨b2, o2, o', rfl, hb2B, ho', z1, z2, z3, z4⟩ := (H1.out.below HBwr.out hB).tg hj1
          rw [hjo] at ho'
          cases ho'
          have hjz : ¬ (j : Int) < 0 := by omega
          clear hf hj hjo hol
          by_cases hk2 : o.kind = 2
          · have HE : Hid (ctE (fs.map Prod.fst) ts ⟨lab, kind, some ⟨bb, off, none⟩, dn, dc, deps, vA, vn, vc, vis⟩ = 9) := by show _ = _; rw [HE0.out, hE.out, HDE.out, if_pos hk2]
            rw [hk2] at z2
            clear hk2 hkk HDE
            go_wp2_with (first | (go_at_call 68; refine HFI.out.mono ?_; rintro e w1 ⟨rfl, rfl⟩))
            go_ret
            exact ⟨ret_int HE.out.symm, HBwr.out⟩
          · have hk1 : o.kind = 1 := by rcases hkk with h | h; exact h; exact absurd h hk2
            rw [if_neg hk2] at HDE
            rw [hk1] at z2
            have HV := Lib.hid (fun W (hb : Below wr.heap.size wr W) => rvisible_any o lab B W (HOO.out.below (HBwr.out.trans (hb.mono HBwr.out.size)) hB) (Nat.le_trans (Nat.le_trans hB HBwr.out.size) hb.size) (by omega) (by omega))
            obtain ⟨vb, hvb⟩ : ∃ vb, visT o.lab o.vis lab = vb := ⟨_, rfl⟩
            have HVB : Hid (ctE (fs.map Prod.fst) ts ⟨lab, kind, some ⟨bb, off, none⟩, dn, dc, deps, vA, vn, vc, vis⟩ = if vb = false then 24 else depE ts lab (deps.drop (k + 1))) := by show _ = _; rw [HE0.out, hE.out, HDE.out, hvb]
            rw [hvb] at HV
            obtain ⟨ol, ok, oA, on, oc, od, pA, pn, pc, pv⟩ := o
            simp only [tgV] at z1 z2 z3 z4 HV hk1
            subst hk1
            clear hvb hkk hk2 HDE
            go_wp2_with (first | (go_at_call 68; refine HFI.out.mono ?_; rintro e w1 ⟨rfl, rfl⟩))
            clear HFI z0 x2
            refine wp_region_stableGD 7 (43 :: 44 :: 45 :: 46 :: 47 :: 48 :: 49 :: []) (by kernel_rfl) (by kernel_rfl) (by kernel_rfl) (fun W => Below wr.heap.size wr W) (fun W W' => Below W.heap.size W W')
              (vPhi ((.slice (some ⟨b2, o2, none⟩) n1 c1) :: (.int .i64 j) :: (.pointer (some ⟨b2, o2 + j * 4, none⟩)) :: (.agg #[.string ol, .int .i64 1, .slice oA on oc, .slice pA pn pc]) :: (.pointer (some ⟨w.heap.size, 0, none⟩)) :: (.string lab) :: (.bool vb) :: [])) (fun W W' h1 h2 => h1.trans (h2.mono h1.size)) (fun i v W W' h _ => h) (Below.refl _ _).drew ?stepA ?tailA
            case stepA =>
              intro i o vs W hi ho hv hR hphi
              obtain ⟨v0, v1, v2, v3, v4, v5, v6, rfl⟩ := ls7 hv
              simp only [List.zip, List.zipWith, putAll, Act.put, List.setIfInBounds_toArray, List.set]
              have hWz := hR.size
              have q0 := (hR.cell (p := ⟨b2, o2 + j * 4, none⟩) (by show b2 < _; omega)).trans z1
              have q1 := (hR.cell (p := ⟨b2, o2 + j * 4 + 1, none⟩) (by show b2 < _; omega)).trans z2
              have q2 := (hR.cell (p := ⟨b2, o2 + j * 4 + 2, none⟩) (by show b2 < _; omega)).trans z3
              have q3 := (hR.cell (p := ⟨b2, o2 + j * 4 + 3, none⟩) (by show b2 < _; omega)).trans z4
              have qx := (hR.cell (p := ⟨w.heap.size, 0, none⟩) (by show w.heap.size < _; omega)).trans x0
              match i, hi, ho with
              | 0, _, rfl =>
                exact .inl ⟨rfl, gives_value (v := .slice (some ⟨b2, o2, none⟩) n1 c1) (w' := W) (by go_simp) ⟨Below.refl _ _, fun u hu => by cases hu; rfl⟩⟩
              | 1, _, rfl =>
                exact .inl ⟨rfl, gives_value (v := .int .i64 j) (w' := W) (by go_simp) ⟨Below.refl _ _, fun u hu => by cases hu; rfl⟩⟩
              | 2, _, rfl =>
                have e0 : v0 = _ := hphi ⟨0, .data⟩ (by simp) rfl v0 rfl _ rfl
                have e1 : v1 = _ := hphi ⟨1, .data⟩ (by simp) rfl v1 rfl _ rfl
                subst e0 e1
                exact .inl ⟨rfl, gives_value (v := .pointer (some ⟨b2, o2 + j * 4, none⟩)) (w' := W) (by go_simp) ⟨Below.refl _ _, fun u hu => by cases hu; rfl⟩⟩
              | 3, _, rfl =>
                have e2 : v2 = _ := hphi ⟨2, .data⟩ (by simp) rfl v2 rfl _ rfl
                subst e2
                exact .inl ⟨rfl, gives_value (v := .agg #[.string ol, .int .i64 1, .slice oA on oc, .slice pA pn pc]) (w' := W) (by go_simp) ⟨Below.refl _ _, fun u hu => by cases hu; rfl⟩⟩
              | 4, _, rfl =>
                exact .inl ⟨rfl, gives_value (v := .pointer (some ⟨w.heap.size, 0, none⟩)) (w' := W) (by go_simp) ⟨Below.refl _ _, fun u hu => by cases hu; rfl⟩⟩
              | 5, _, rfl =>
                have e4 : v4 = _ := hphi ⟨4, .data⟩ (by simp) rfl v4 rfl _ rfl
                subst e4
                exact .inl ⟨rfl, gives_value (v := .string lab) (w' := W) (by go_simp) ⟨Below.refl _ _, fun u hu => by cases hu; rfl⟩⟩
              | 6, _, rfl =>
                have e3 : v3 = _ := hphi ⟨3, .data⟩ (by simp) rfl v3 rfl _ rfl
                have e5 : v5 = _ := hphi ⟨5, .data⟩ (by simp) rfl v5 rfl _ rfl
                subst e3 e5
                refine .inl ⟨rfl, gives_call (f := 18) (args := #[.agg #[.string ol, .int .i64 1, .slice oA on oc, .slice pA pn pc], .string lab]) (by go_simp) ((HV.out W hR).mono ?_)⟩
                rintro e W' ⟨rfl, hb7⟩
                exact ⟨_, rfl, hb7, fun u hu => by cases hu; rfl⟩
              | i + 7, hi, _ => exact absurd hi (by omega)
            case tailA =>
              intro vs W hv hR hphi
              obtain ⟨v0, v1, v2, v3, v4, v5, v6, rfl⟩ := ls7 hv
              simp only [List.zip, List.zipWith, putAll, Act.put, List.setIfInBounds_toArray, List.set, List.drop]
              have e0 : v0 = _ := hphi 0 v0 rfl _ rfl
              have e1 : v1 = _ := hphi 1 v1 rfl _ rfl
              have e2 : v2 = _ := hphi 2 v2 rfl _ rfl
              have e3 : v3 = _ := hphi 3 v3 rfl _ rfl
              have e4 : v4 = _ := hphi 4 v4 rfl _ rfl
              have e5 : v5 = _ := hphi 5 v5 rfl _ rfl
              have e6 : v6 = _ := hphi 6 v6 rfl _ rfl
              subst e0 e1 e2 e3 e4 e5 e6
              clear hphi hv
              have HB5 : Hid (Below w.heap.size w W) := HBwr.out.trans (hR.mono HBwr.out.size)
              have HB6 : Hid (Below w0.heap.size w0 W) := hBw.out.trans (hR.mono hzr)
              clear hR z1 z2 z3 z4 x0
              cases vb with
              | false =>
                have HE : Hid (ctE (fs.map Prod.fst) ts ⟨lab, kind, some ⟨bb, off, none⟩, dn, dc, deps, vA, vn, vc, vis⟩ = 24) := HVB.out
                go_wp2_with fail
                go_ret
                exact ⟨ret_int HE.out.symm, HB5.out⟩
              | true =>
                have HE : Hid (ctE (fs.map Prod.fst) ts ⟨lab, kind, some ⟨bb, off, none⟩, dn, dc, deps, vA, vn, vc, vis⟩ = depE ts lab (deps.drop (k + 1))) := HVB.out
                go_wp2_with fail
                go_roundw
                case rel => exact ⟨k + 1, by go_num, hlt, HE0.out.symm.trans HE.out, HB6.out⟩
                case measure => simp [intOf]; omega
      · have hlz : ¬ (k : Int) < (dn : Int) := by omega
        have HE : Hid (ctE (fs.map Prod.fst) ts ⟨lab, kind, dA, dn, dc, deps, vA, vn, vc, vis⟩ = 0) := by show _ = _; rw [HE0.out, hE.out, List.drop_of_length_le (by omega)]; rfl
        go_wp2_with fail
        go_ret
        exact ⟨ret_int HE.out.symm, HBwr.out⟩
end Go.Proofs.YtddlohbhchjjhaaGreatDoor
