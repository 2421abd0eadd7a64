/-
  Lemmas: graph.find by users, and graph.Users. The reference's Label. The reference's check of one rule: what may stand in Visible. Lists of a known length, taken apart.
-/
import Derived.BigQuiet
import Derived.Test.YtddlohbhchjjhaaGreatDoorU10

namespace Go.Proofs.YtddlohbhchjjhaaGreatDoor
open Go.RowKit Go.Maps
attribute [local go_sem] Oper.semAt_some

/-- what Users answers -/
def UsrR (ts : List Tg) (lab : ByteArray) (l : List ByteArray) (err : Int) : Prop :=
  (¬ Vld ts ∧ l = [] ∧ err = 1) ∨ (Vld ts ∧ isT ts lab = false ∧ l = [] ∧ err = 8) ∨ (Vld ts ∧ isT ts lab = true ∧ err = 0 ∧ Asc l ∧ ∀ x, x ∈ l ↔ Rch (nxT ts) x lab)
def UsrEnd (ts : List Tg) (lab : ByteArray) (w : World) (e : Ending) (w' : World) : Prop :=
  ∃ A n c l err, e = .returned (.tuple #[.slice A n c, .int .i64 err]) ∧ Sl w' w'.heap.size 1 A n (strs l) ∧ n ≤ c ∧ c ≤ maxLen ∧ Below w.heap.size w w' ∧ UsrR ts lab l err
theorem UsrEnd.none_ {ts : List Tg} {lab : ByteArray} {w w' : World} {err : Int} (h : UsrR ts lab [] err) (hb : Below w.heap.size w w') : UsrEnd ts lab w (.returned (.tuple #[.slice none 0 0, .int .i64 err])) w' :=
  ⟨none, 0, 0, [], err, rfl, Sl.nil _ _ _ _, Nat.le_refl _, Nat.zero_le _, hb, h⟩
theorem rch_users {nx lu : ByteArray → List ByteArray} (inv : ∀ d x, x ∈ lu d ↔ d ∈ nx x) {a b : ByteArray} : Rch lu a b ↔ Rch nx b a := by
  constructor
  · rintro ⟨n, h⟩
    have : ∀ {n : Nat} {a b : ByteArray}, Stp lu n b a → Stp nx n a b := by
      intro n
      induction n with
      | zero => intro a b h; exact (inv b a).1 h
      | succ n ih => rintro a b ⟨c, hc, hb⟩; exact Stp.cons ((inv c a).1 hb) (ih hc)
    exact ⟨n, this h⟩
  · rintro ⟨n, h⟩
    exact ⟨n, stp_rev inv h⟩
theorem UsrR.same {ts : List Tg} {lab : ByteArray} {l m : List ByteArray} {e f : Int} (h : UsrR ts lab l e) (g : UsrR ts lab m f) : l = m ∧ e = f := by
  rcases h with ⟨h1, h2, h3⟩ | ⟨h1, h2, h3, h4⟩ | ⟨h1, h2, h3, h4, h5⟩
  · rcases g with ⟨_, g2, g3⟩ | ⟨g1, _⟩ | ⟨g1, _⟩
    · exact ⟨h2.trans g2.symm, h3.trans g3.symm⟩
    · exact absurd g1 h1
    · exact absurd g1 h1
  · rcases g with ⟨g1, _⟩ | ⟨_, _, g3, g4⟩ | ⟨_, g2, _⟩
    · exact absurd h1 g1
    · exact ⟨h3.trans g3.symm, h4.trans g4.symm⟩
    · rw [h2] at g2; cases g2
  · rcases g with ⟨g1, _⟩ | ⟨_, g2, _⟩ | ⟨_, _, g3, g4, g5⟩
    · exact absurd h1 g1
    · rw [h2] at g2; cases g2
    · exact ⟨asc_ext h4 g4 fun x => (h5 x).trans (g5 x).symm, h3.trans g3.symm⟩

set_option maxRecDepth 100000 in
set_option maxHeartbeats 4000000 in
theorem findU_any (A : Option Addr) (n c B : Nat) (ts : List Tg) (lab : ByteArray) (w : World) (h0 : Sl w B 4 A n (flat tgC ts)) (hok : ∀ t ∈ ts, TgOk w B t) (hB : B ≤ w.heap.size) (hnc : n ≤ c) (hcm : c ≤ maxLen) (hls : lab.size ≤ maxLen) :
    Calls Tryz.prog 72 #[.agg #[.slice A n c], .string lab, .bool true] w (UsrEnd ts lab w) := by
  refine (callsIn_wide (n := 6)).1 ?_
  have hf1 : Fence.wide.fn 65 := trivial
  have hf2 : Fence.wide.fn 53 := trivial
  have hf3 : Fence.wide.fn 62 := trivial
  have hf4 : Fence.wide.fn 70 := trivial
  have hf5 : Fence.wide.fn 107 := trivial
  have HTL := Lib.hid (h0.len tgC_len (by omega))
  have H0 := Lib.hid h0; have HOK := Lib.hid hok
  clear h0 hok
  have HB0 : Hid (Below w.heap.size w (w.alloc (.cells #[.slice A n c] 27))) := (Below.refl _ w).alloc (Nat.le_refl _) _
  have HG0 : Hid ((w.alloc (.cells #[.slice A n c] 27)).heap[w.heap.size]? = some (.cells #[.slice A n c] 27 (0, 0))) := World.alloc_heap_new w _
  refine callsIn_of_wp_marks Tryz.func72 rfl trivial ?_ rfl
  simp only [Tryz.ntmps72, List.size_toArray, List.length_cons, List.length_nil, Nat.reduceAdd, Nat.reduceSub, Array.replicate_succ, Array.replicate_zero, List.push_toArray, List.append_toArray, List.nil_append, List.cons_append]
  have HV1 := Lib.hid (valid_any A n c B ts (w.alloc (.cells #[.slice A n c] 27)) (H0.out.below HB0.out hB) (fun t ht => (HOK.out t ht).below HB0.out hB) (by simp; omega) hnc hcm)
  gi_wp2_with (gi_at_call 70; refine (callsIn_wide.2 HV1.out).mono ?_; rintro e w1 ⟨r, rfl, hr, hb1⟩; refine halt_ ?_)
  refine unhalt ?_
  have HR := Lib.hid hr
  have HB1 : Hid (Below w.heap.size w w1) := HB0.out.trans (hb1.mono (by simp))
  have HG1 : Hid (w1.heap[w.heap.size]? = some (.cells #[.slice A n c] 27 (0, 0))) := (hb1.block _ (by simp)).trans HG0.out
  have hz1 : w.heap.size < w1.heap.size := by have := hb1.size; simp at this; omega
  have x0 := cell_of_one HG1.out
  clear hr hb1 HV1 HG0
  cases r with
  | false =>
    have HF : Hid (UsrR ts lab [] 1) := .inl ⟨fun h => (by have := HR.out.2 h; cases this), rfl, rfl⟩
    gi_wp2
    exact ⟨_, resultsFnd rfl rfl, UsrEnd.none_ HF.out HB1.out⟩
  | true =>
    have HVL := Lib.hid (HR.out.1 rfl)
    have hn100 : n ≤ 100 := by have := HVL.out.few; rw [HTL.out] at this; exact this
    have HDM : Hid (∀ t ∈ ts, t.deps.length ≤ 20) := fun t ht => (HVL.out.all t ht).few
    clear HR
    have HI := Lib.hid (index_any A n c B ts w1 (H0.out.below HB1.out hB) (by omega) (by omega) (fun t ht => (HOK.out t ht).ls))
    gi_wp2_with (gi_at_call 53; refine (callsIn_wide.2 HI.out).mono ?_; rintro e w2 ⟨rfl, hM, hb2⟩; refine halt_ ?_)
    refine unhalt ?_
    have HM := Lib.hid hM
    have HB2 : Hid (Below w.heap.size w w2) := HB1.out.trans (hb2.mono (by omega))
    have hz2 : w1.heap.size < w2.heap.size := HM.out.lt
    clear hM hb2 HI x0 HG1
    have hlk := HM.out.look_ok Tryz.underlying9 Tryz.underlying73 (Tryz.zeroValue35 _) hls
    rw [idxG_some] at hlk
    obtain ⟨lv, hlv⟩ : ∃ lv, (idxG ts lab).getD (.agg #[.string ⟨#[]⟩, .int .i64 0, .slice none 0 0, .slice none 0 0]) = lv := ⟨_, rfl⟩
    have hlf : ∃ s0 k1 A2 n2 c2 A3 n3 c3, lv = .agg #[.string s0, .int .i64 k1, .slice A2 n2 c2, .slice A3 n3 c3] := by
      rw [← hlv]; unfold idxG
      cases findT ts lab with
      | none => exact ⟨_, _, _, _, _, _, _, _, rfl⟩
      | some t => exact ⟨_, _, _, _, _, _, _, _, rfl⟩
    obtain ⟨s0, k1, A2, n2, c2, A3, n3, c3, rfl⟩ := hlf
    rw [hlv] at hlk
    clear hlv
    cases hs : isT ts lab with
    | false =>
      have HF : Hid (UsrR ts lab [] 8) := .inr (.inl ⟨HVL.out, hs, rfl, rfl⟩)
      rw [hs] at hlk
      clear hs
      gi_wp2
      exact ⟨_, resultsFnd rfl rfl, UsrEnd.none_ HF.out (HB2.out.alloc (by omega) _)⟩
    | true =>
      have HS := Lib.hid hs
      rw [hs] at hlk
      clear hs
      have HBT : Hid (Below w.heap.size w (w2.alloc (.cells #[.string s0, .int .i64 k1, .slice A2 n2 c2, .slice A3 n3 c3] 35))) := HB2.out.alloc (by omega) _
      have HE1 := Lib.hid (edges_any w1.heap.size n 20 B ts (w2.alloc (.cells #[.string s0, .int .i64 k1, .slice A2 n2 c2, .slice A3 n3 c3] 35)) (HM.out.alloc _) (fun t ht => (HOK.out t ht).below HBT.out hB) (by simp; omega) (by omega) HDM.out (by omega))
      gi_wp2_with (gi_at_call 62; refine (callsIn_wide.2 HE1.out).mono ?_; rintro e w3 ⟨rfl, gd, gu, L, hE, hLd, hLu, hb3⟩; refine halt_ ?_)
      refine unhalt ?_
      have HLu := Lib.hid hLu
      have HND : Hid (Nxm w3 w3.heap.size (w2.heap.size + 1 + 1) 2000000 gu (fun s => L (true, s))) := by
        have := hE.nxmU
        rw [World.size_alloc] at this
        exact this
      have HBW : Hid (Below w.heap.size w w3) := HBT.out.trans (hb3.mono (by simp; omega))
      have hz3 : w2.heap.size + 1 < w3.heap.size := by have := HND.out.lt; omega
      have HU : Hid (∀ x, ∀ y ∈ L (true, x), y ∈ ts.map Tg.lab) := fun x y hy => (isT_iff ts y).1 (nxT_mem ((HLu.out x y).1 hy)).2
      have HUl : Hid ((ts.map Tg.lab).length ≤ 1000) := by show _ ≤ _; rw [List.length_map, HTL.out]; omega
      have HUs : Hid (∀ y ∈ ts.map Tg.lab, y.size ≤ maxLen) := fun y hy => by
        obtain ⟨t, ht, rfl⟩ := List.mem_map.1 hy
        exact (HOK.out t ht).ls
      clear hE hLd hLu hb3 HE1 HM HB1 HB2 H0 HBT hlk
      gi_wp2_with (gi_at_call 65; refine (callsIn_wide.2 (reached_any _ _ _)).mono ?_; rintro e w' ⟨rfl, rfl⟩)
      obtain ⟨W1, hW1⟩ : ∃ W1, w3.alloc (.cells #[.slice none 0 0] 33) = W1 := ⟨_, rfl⟩
      have hy1 : W1.heap.size = w3.heap.size + 1 := by rw [← hW1]; simp
      have hbb : Below w3.heap.size w3 W1 := by rw [← hW1]; exact (Below.refl _ w3).alloc (Nat.le_refl _) _
      have g1 : W1.heap[w3.heap.size]? = some (.cells #[.slice none 0 0] 33 (0, 0)) := by rw [← hW1]; exact World.alloc_heap_new w3 _
      have hnx : NxR ((W1.alloc (.cells #[.map (some (w2.heap.size + 1 + 1))] 81)).alloc (.cells #[.string lab] 9)) Tryz.prog 9 81 w3.heap.size (w3.heap.size + 1 + 1) (w3.heap.size + 1) (w2.heap.size + 1 + 1) 2000000 lab gu (fun s => L (true, s)) := by
        have := (HND.out.below hbb (Nat.le_refl _)).boxed (by omega) lab
        rw [hy1] at this; exact this
      rw [hW1]
      obtain ⟨W2, hW2⟩ : ∃ W2, (W1.alloc (.cells #[.map (some (w2.heap.size + 1 + 1))] 81)).alloc (.cells #[.string lab] 9) = W2 := ⟨_, rfl⟩
      have hy2 : W2.heap.size = w3.heap.size + 3 := by rw [← hW2]; simp; omega
      have hb12 : Below W1.heap.size W1 W2 := by rw [← hW2]; exact ((Below.refl _ W1).alloc (Nat.le_refl _) _).alloc (by simp) _
      have hb2 : Below w3.heap.size w3 W2 := hbb.trans (hb12.mono (by omega))
      replace g1 := (hb12.block w3.heap.size (by omega)).trans g1
      rw [hW2] at hnx ⊢
      clear hW1 hW2 hb12 hbb hy1 W1
      refine wpIn_rangeT (α := ByteArray × Nat) (F := Fence.wide) (n := 6) rfl (by omega) (gf := 108) (lb := #[.pointer (some ⟨w3.heap.size + 1 + 1, 0, none⟩), .pointer (some ⟨w3.heap.size + 1, 0, none⟩)]) rfl trivial (enters_of Tryz.func108 (by kernel_rfl) rfl)
        (reached_st 5 (by omega) w3.heap.size (w3.heap.size + 1 + 1) (w3.heap.size + 1) (w2.heap.size + 1 + 1) 2000000 (W2.heap.size + 2) lab gu (fun s => L (true, s)) (ts.map Tg.lab) W2 hnx (by omega) (by omega) (by omega) (by omega) HU.out HUl.out HUs.out hls) KeepR.trans (fun W l r o' hl hlr => keepR_put W l r o' hlr (by omega) (by omega)) (fun A C h hA => stepR_rec h rfl hA) (Below.refl _ _) (fun _ => rfl)
        (fun pre W => ∃ Aq cq, W.heap[w3.heap.size]? = some (.cells #[.slice Aq pre.length cq] 33 (0, 0)) ∧ W.ownsRow (W2.heap.size + 3) 9 1 (.slice Aq pre.length cq) pre.length (strs (pre.map Prod.fst)) ∧ Below w3.heap.size w3 W ∧ w3.heap.size + 3 ≤ W.heap.size)
        (fun _ _ _ => False)
        ?hI ?hIx ?hIS ⟨none, 0, g1, World.ownsRow_nil _ _ _ _, hb2, by omega⟩ ?a1 ?assign ?body ?done ?stop
      case assign =>
        intro l y W K hK
        have HKK := Lib.hid hK
        clear hK
        gi_wp2
        exact HKK.out
      case hI =>
        rintro pre A C row ⟨Aq, cq, h0, h1, h2, h3⟩ hg hr
        refine ⟨Aq, cq, one_grown h0 hg (fun e => ?_), h1.kept hg ?_, h2.grown hg h2.size (fun k e => ?_), Nat.le_trans h3 hg.size⟩
        · have := (hr _ e.symm).1; omega
        · cases hv : (Value.slice Aq pre.length cq).ownBlock with
          | none => exact .inl rfl
          | some k =>
            refine .inr fun e => ?_
            obtain ⟨_, cur, hcur⟩ := own_row h1 hv
            obtain ⟨_, o, ho, hc⟩ := hr _ e.symm
            rw [hcur] at ho; cases ho; cases hc
        · have := (hr _ e).1; omega
      case hIx => rintro c pre A C row hf _ _; exact hf
      case hIS =>
        rintro pre A C ⟨Aq, cq, h0, h1, h2, h3⟩ hs
        refine ⟨Aq, cq, (hs.block _ (by omega) (.inl (by omega))).trans h0, own_keep h1 (fun k hk => ?_), hs.below h2 (by omega) (by omega), Nat.le_trans h3 hs.size⟩
        obtain ⟨hbk, cur, hcur⟩ := own_row h1 hk
        exact hs.block k (Array.getElem?_eq_some_iff.1 hcur).1 (.inr ⟨by omega, by rw [hcur]; show ¬ (_ = _); decide⟩)
      case stop => rintro D c pre W hD hS hf hK; exact hf.elim
      case body =>
        rintro l pre y W hpf hWz ⟨Aq, cq, h0, h1, h2, h3⟩
        have c0 := cell_of_one h0
        have f0 := free_of_one h0
        have H0 := Lib.hid h0; have H1 := Lib.hid h1; have H2 := Lib.hid h2
        have hpl := hpf.len HU.out
        have HUl' := HUl.out
        obtain ⟨y, ky⟩ := y
        simp only [List.length_append, List.length_cons, List.length_nil] at hpl
        obtain ⟨i0, hi, hz0, hz1', hz2'⟩ := info_parts infoStr
        have Hi := Lib.hid hi; have Hz0 := Lib.hid hz0; have Hz1 := Lib.hid hz1'; have Hz2 := Lib.hid hz2'
        clear h0 h1 h2 g1 hb2 hnx hpf hi hz0 hz1' hz2'
        gi_wp2_with (gi_at_builtin; refine halt_ ?_)
        refine unhalt ?_
        refine wpListIn_append_sl (base := W2.heap.size + 3) (size := 1) rfl (.tmp 41) (.tmp 43) 33 rfl 9 i0 _ 16 Tryz.underlying33 Hi.out Hz0.out Hz1.out Hz2.out rfl (by decide) (.slice Aq pre.length cq) pre.length (strs (pre.map Prod.fst)) rfl ?own (W.heap.size + 1) _ 1 _ [.string y] rfl ?nw (by simp [Value.oneCell']) ?l1 ?l2 ?l3 ?_
        case own => exact H1.out.kept (World.grownBy_alloc W _ none) (by cases hv : (Value.slice Aq pre.length cq).ownBlock with | none => exact .inl rfl | some k => exact .inr (by simp))
        case nw => exact ⟨rfl, fun _ => ⟨W.heap.size, 0, rfl, Nat.lt_succ_self _, fun j u hu => by have := new_cell W 9 y j u hu; rwa [Addr.add_lit] at this⟩⟩
        case l1 => unfold maxLen; omega
        case l2 => omega
        case l3 => simp; omega
        intro A4 c4 w4 ho4 hg4 hc41 hc42
        have HO4 : Hid (w4.ownsRow (W2.heap.size + 3) 9 1 (.slice A4 (pre.length + 1) c4) (pre.length + 1) (strs ((pre ++ [(y, ky)]).map Prod.fst))) := by
          show World.ownsRow _ _ _ _ _ _ _
          have e : strs ((pre ++ [(y, ky)]).map Prod.fst) = strs (pre.map Prod.fst) ++ [.string y] := by simp [strs]
          rw [e]; exact ho4
        have HGE : Hid (∀ k, (Value.slice Aq pre.length cq).ownBlock = some k → W2.heap.size + 3 ≤ k ∧ ∃ cur, W.heap[k]? = some (.cells cur 9 (0, 0))) := fun k hk => own_row H1.out hk
        have HX4 : Hid (w4.heap[w3.heap.size]? = some (.cells #[.slice Aq pre.length cq] 33 (0, 0))) := one_grown ((Below.heap_alloc W _ _ (by omega)).trans H0.out) hg4 (fun e => by have := (HGE.out _ e.symm).1; omega)
        have c4' := cell_of_one HX4.out
        have f4' := free_of_one HX4.out
        have hz4 : W.heap.size + 1 ≤ w4.heap.size := by have := hg4.size; simp at this; omega
        have HB4 : Hid (Below w3.heap.size w3 w4) := (H2.out.alloc (by omega) _).grown hg4 (by simp; omega) (fun k hk => by have := (HGE.out k hk).1; omega)
        have HK4 : Hid (∀ k, k < W.heap.size → (Value.slice Aq pre.length cq).ownBlock ≠ some k → w4.heap[k]? = W.heap[k]?) := fun k hk hne => (hg4.block k (by simp; omega) (fun e => hne e.symm)).trans (Below.heap_alloc W _ _ hk)
        clear ho4 hg4 c0 f0
        gi_wp2
        have HS : Hid (∀ k, k < W.heap.size → (Value.slice Aq pre.length cq).ownBlock ≠ some k → k ≠ w3.heap.size → (w4.setCell ⟨w3.heap.size, 0, none⟩ (.slice A4 (pre.length + 1) c4)).heap[k]? = W.heap[k]?) := fun k hk hne hk3 => (Below.heap_setCell _ _ _ _ hk3).trans (HK4.out k hk hne)
        refine ⟨⟨HS.out _ (by omega) (fun e => by have := (HGE.out _ e).1; omega) (by omega), HS.out _ (by omega) (fun e => by have := (HGE.out _ e).1; omega) (by omega)⟩, ⟨by simp; omega, fun k hk hc => ?_⟩, A4, c4, ?_, ?_, ?_, ?_⟩
        · refine HS.out k hk (fun e => ?_) (fun e => ?_)
          · obtain ⟨h5, cur, h6⟩ := HGE.out k e
            rcases hc with h | h | h
            · omega
            · rw [h6] at h; revert h; show ¬ (_ = _); decide
            · omega
          · subst e
            rcases hc with h | h | h
            · omega
            · rw [H0.out] at h; revert h; show ¬ (_ = _); decide
            · omega
        · rw [List.length_append]; exact one_setCell HX4.out
        · rw [List.length_append]; exact ownsRow_setCell_below HO4.out (by simp; omega) _
        · exact HB4.out.setCell (p := ⟨w3.heap.size, 0, none⟩) (by simp) _
        · simp; omega
      case done =>
        rintro D xs W hD ⟨hgot, hS⟩ ⟨Aq, cq, h0, h1, h2, h3⟩ hK
        have c0 := cell_of_one h0
        have HE : Hid (Asc (srtB (xs.map Prod.fst)) ∧ ∀ x, x ∈ srtB (xs.map Prod.fst) ↔ Rch (nxT ts) x lab) := ⟨srtB_asc hgot.nodup, fun x => by rw [srtB_mem, hS x]; exact rch_users HLu.out⟩
        have hpl := hgot.len HU.out
        have HUl' := HUl.out
        have H0 := Lib.hid h0; have H1 := Lib.hid h1; have HK := Lib.hid hK; have H2 := Lib.hid h2
        clear h0 h1 h2 hK hgot hS g1 hb2 hnx
        have HSO := Lib.hid (sort_any (W2.heap.size + 3) xs.length cq Aq (xs.map Prod.fst) W H1.out (by omega))
        gi_wp2_with (gi_at_call 107; refine (callsIn_wide.2 HSO.out).mono ?_; rintro e w5 ⟨rfl, hs1, hs2⟩; refine halt_ ?_)
        refine unhalt ?_
        have HO5 := Lib.hid hs1
        have HX5 : Hid (w5.heap[w3.heap.size]? = some (.cells #[.slice Aq xs.length cq] 33 (0, 0))) := one_grown H0.out hs2 (fun e => by have := (own_row H1.out e.symm).1; omega)
        have c5 := cell_of_one HX5.out
        have HB5 : Hid (Below w3.heap.size w3 w5) := H2.out.grown hs2 H2.out.size (fun k hk => by have := (own_row H1.out hk).1; omega)
        have HD5 : Hid (w5.heap[D]? = some (.deferred (some []))) := (hs2.block D (Array.getElem?_eq_some_iff.1 HK.out).1 (fun e => by
          obtain ⟨_, cur, h6⟩ := own_row H1.out e.symm
          rw [HK.out] at h6; cases h6)).trans HK.out
        clear hs1 hs2 HSO H0 HK c0
        gi_wp2
        refine ⟨by simp, .inl ⟨_, _, rfl, run_takeDeferred HD5.out, ?_⟩⟩
        have HBE : Hid (Below w3.heap.size w3 (w5.putObj D (.deferred none))) := HB5.out.grown (grownBy_putObj' _ _ _) HB5.out.size (fun k e => by cases e; omega)
        obtain ⟨_, _, hform, hl1, hl2⟩ := ownsRow_form HO5.out
        injection hform with _ _ hcc
        subst hcc
        refine ⟨_, resultsFnd rfl rfl, Aq, xs.length, cq, srtB (xs.map Prod.fst), 0, rfl, ?_, hl1, hl2, HBW.out.trans (HBE.out.mono HBW.out.size), .inr (.inr ⟨HVL.out, HS.out, rfl, HE.out.1, HE.out.2⟩)⟩
        exact Sl.of_own (own_keep HO5.out (fun k hk => World.putObj_heap_other (fun e => by
          obtain ⟨_, cur, h6⟩ := own_row HO5.out hk
          subst e
          rw [HD5.out] at h6; cases h6)))
set_option maxHeartbeats 400000 in
theorem users_any (A : Option Addr) (n c B : Nat) (ts : List Tg) (lab : ByteArray) (w : World) (h0 : Sl w B 4 A n (flat tgC ts)) (hok : ∀ t ∈ ts, TgOk w B t) (hB : B ≤ w.heap.size) (hnc : n ≤ c) (hcm : c ≤ maxLen) (hls : lab.size ≤ maxLen) :
    Calls Tryz.prog 35 #[.agg #[.slice A n c], .string lab] w (UsrEnd ts lab w) := by
  have HB0 : Hid (Below w.heap.size w (w.alloc (.cells #[.slice A n c] 27))) := (Below.refl _ w).alloc (Nat.le_refl _) _
  have HF := Lib.hid (findU_any A n c B ts lab (w.alloc (.cells #[.slice A n c] 27)) (h0.below HB0.out hB) (fun t ht => (hok t ht).below HB0.out hB) (by simp; omega) hnc hcm hls)
  clear h0 hok
  go_enter Tryz.func35, Tryz.ntmps35
  go_wp2_with (go_at_call 72; refine HF.out.mono ?_; rintro e w1 ⟨A1, n1, c1, l, err, rfl, h1, h2, h3, h4, h5⟩)
  go_ret2
  exact ⟨A1, n1, c1, l, err, rfl, h1, h2, h3, HB0.out.trans (h4.mono (by simp)), h5⟩
end Go.Proofs.YtddlohbhchjjhaaGreatDoor

namespace Go.Proofs.YtddlohbhchjjhaaGreatDoor
open Go.RowKit Go.Shelf

set_option maxHeartbeats 400000 in
theorem rletter_any (c : Int) (w : World) : Calls Tryz.prog 195 #[.int .u8 c] w fun e w' => e = .returned (.bool (ltrI c)) ∧ w = w' := by
  go_enter Tryz.func195, Tryz.ntmps195
  go_wp2
  all_goals (go_ret; refine ⟨ret_bool ?_, rfl⟩; rw [Bool.eq_iff_iff]; simp [ltrI]; try omega)
set_option maxHeartbeats 400000 in
theorem rdigit_any (c : Int) (w : World) : Calls Tryz.prog 196 #[.int .u8 c] w fun e w' => e = .returned (.bool (dgtI c)) ∧ w = w' := by
  go_enter Tryz.func196, Tryz.ntmps196
  go_wp2
  all_goals (go_ret; refine ⟨ret_bool ?_, rfl⟩; rw [Bool.eq_iff_iff]; simp [dgtI]; try omega)

/-- the index of the first slash, or the length -/
def slashL : List UInt8 → Nat
  | [] => 0
  | c :: r => if c = 47 then 0 else slashL r + 1
theorem slashL_le : ∀ l : List UInt8, slashL l ≤ l.length
  | [] => Nat.le_refl _
  | c :: r => by simp only [slashL]; split; simp; have := slashL_le r; simp; omega
theorem slashL_at : ∀ {l : List UInt8} {k : Nat}, (∀ j, j < k → l[j]? ≠ some 47) → k ≤ l.length → (k = l.length ∨ l[k]? = some 47) → slashL l = k
  | [], k, _, h, _ => by simp at h; simp [slashL, h]
  | c :: r, 0, _, _, h3 => by
    rcases h3 with h3 | h3
    · simp at h3
    · simp at h3; simp [slashL, h3]
  | c :: r, k + 1, h1, h2, h3 => by
    have hc : c ≠ 47 := fun e => h1 0 (by omega) (by simp [e])
    simp only [slashL, if_neg hc]
    rw [slashL_at (k := k) (fun j hj => by have := h1 (j + 1) (by omega); simpa using this) (by simp at h2; omega) (by
      rcases h3 with h3 | h3
      · left; simp at h3; omega
      · right; simpa using h3)]
theorem splitS_slash : ∀ (l : List UInt8), splitS l = if slashL l < l.length then l.take (slashL l) :: splitS (l.drop (slashL l + 1)) else [l]
  | [] => rfl
  | c :: r => by
    by_cases hc : c = 47
    · subst hc; simp [splitS, slashL]
    · have ih := splitS_slash r
      simp only [splitS, slashL, if_neg hc]
      rw [ih]
      by_cases h : slashL r < r.length
      · rw [if_pos h, if_pos (by simp; exact h)]; simp
      · rw [if_neg h, if_neg (by simp; omega)]

set_option maxHeartbeats 1000000 in
theorem rslash_any (s : ByteArray) (w : World) (hs : s.size ≤ maxLen) :
    Calls Tryz.prog 152 #[.string s] w fun e w' => e = .returned (.int .i64 (slashL (bl s) : Nat)) ∧ w = w' := by
  unfold maxLen at hs
  have HL := Lib.hid (size_len s)
  go_enter Tryz.func152, Tryz.ntmps152
  go_wp2
  go_loop [3] (fun i => ∃ k : Nat, k ≤ s.size ∧ i = .int .i64 k ∧ Hid (∀ j, j < k → (bl s)[j]? ≠ some 47)) (fun i => s.size - (intOf i).toNat)
  case atStart => exact ⟨0, Nat.zero_le _, rfl, fun j h => absurd h (by omega)⟩
  case round =>
    obtain ⟨k, hk, rfl, hN⟩ := hrel
    by_cases hlt : k < s.size
    · have hg := Lib.hid (get_data s k hlt)
      have hlz : (k : Int) < (s.size : Int) := by omega
      by_cases h47 : s[k] = 47
      · have t1 : (((s[k].toNat : Nat) : Int) != 47) = false := by simp [h47]
        have HF : Hid (slashL (bl s) = k) := slashL_at hN.out (by unfold bl; rw [← HL.out]; exact hk) (.inr (by show s.data.toList[k]? = _; rw [hg.out, h47]))
        clear h47
        go_wp2
        go_ret
        exact ⟨by rw [HF.out]; rfl, rfl⟩
      · have t1 : (((s[k].toNat : Nat) : Int) != 47) = true := by
          rw [bne_iff_ne]; intro e
          apply h47
          apply UInt8.toNat_inj.1
          show s[k].toNat = 47
          omega
        have HF : Hid (∀ j, j < k + 1 → (bl s)[j]? ≠ some 47) := fun j hj => by
          by_cases e : j = k
          · subst e; show s.data.toList[j]? ≠ _; rw [hg.out]; intro e2; exact h47 (Option.some.inj e2)
          · exact hN.out j (by omega)
        clear h47
        go_wp2
        go_round
        case rel => exact ⟨k + 1, hlt, by go_num, HF.out⟩
        case measure => simp [intOf]; omega
    · have hlz : ¬ (k : Int) < (s.size : Int) := by omega
      have HF : Hid (slashL (bl s) = k) := slashL_at hN.out (by unfold bl; rw [← HL.out]; exact hk) (.inl (by unfold bl; rw [← HL.out]; omega))
      go_wp2
      go_ret
      exact ⟨by rw [HF.out]; rfl, rfl⟩

set_option maxHeartbeats 2000000 in
theorem rword_any (s : ByteArray) (w : World) (hs : s.size ≤ maxLen) :
    Calls Tryz.prog 153 #[.string s, .int .i64 20] w fun e w' => e = .returned (.bool (partB s)) ∧ w = w' := by
  unfold maxLen at hs
  have HL := Lib.hid (size_len s)
  by_cases c0 : (s.size : Int) < 1
  · have hv : Hid (partB s = false) := by
      show _ = _
      have : bl s = [] := List.eq_nil_of_length_eq_zero (by have := HL.out; unfold bl; omega)
      unfold partB partL; rw [this]; rfl
    go_enter Tryz.func153, Tryz.ntmps153
    go_wp2
    go_ret
    exact ⟨ret_bool hv.out.symm, rfl⟩
  by_cases c1 : 20 < (s.size : Int)
  · have hv := Lib.hid (part_long s c1)
    go_enter Tryz.func153, Tryz.ntmps153
    go_wp2
    go_ret
    exact ⟨ret_bool hv.out.symm, rfl⟩
  have HV : Hid (partB s = wordL (bl s)) := by
    show _ = _
    have := HL.out
    unfold partB partL; rw [decide_eq_true (by unfold bl; omega), Bool.true_and]
  have h0s : 0 < s.size := by omega
  have hg0 := Lib.hid (get_data s 0 h0s)
  cases hl0 : ltrI (s[0].toNat : Int) with
  | false =>
    have hv : Hid (partB s = false) := by
      show _ = _
      rw [HV.out]; exact word_bad hg0.out (by unfold okC ltrB; rw [hl0]; simp)
    have HLI := Lib.hid hl0
    clear hl0
    go_enter Tryz.func153, Tryz.ntmps153
    go_wp2_with (go_at_call 195; refine (rletter_any _ _).mono ?_; rintro e w' ⟨rfl, rfl⟩; rw [HLI.out])
    go_ret
    exact ⟨ret_bool hv.out.symm, rfl⟩
  | true =>
    have HL0 := Lib.hid hl0
    clear hl0
    go_enter Tryz.func153, Tryz.ntmps153
    go_wp2_with (go_at_call 195; refine (rletter_any _ _).mono ?_; rintro e w' ⟨rfl, rfl⟩; rw [HL0.out])
    go_loop [5] (fun i => ∃ k : Nat, k ≤ s.size ∧ i = .int .i64 k ∧ Hid (OkTo (bl s) k)) (fun i => s.size - (intOf i).toNat)
    case atStart => exact ⟨0, Nat.zero_le _, rfl, fun j c h => absurd h (by omega)⟩
    case round =>
      obtain ⟨k, hk, rfl, hO⟩ := hrel
      by_cases hlt : k < s.size
      · have hg := Lib.hid (get_data s k hlt)
        have hlz : (k : Int) < (s.size : Int) := by omega
        cases hl : ltrI (s[k].toNat : Int) with
        | true =>
          have HO2 : Hid (OkTo (bl s) (k + 1)) := hO.out.step hg.out (by unfold okC ltrB; rw [hl]; rfl)
          have HLI := Lib.hid hl
          clear hl
          go_wp2_with (go_at_call 195; refine (rletter_any _ _).mono ?_; rintro e w' ⟨rfl, rfl⟩; rw [HLI.out])
          go_round
          case rel => exact ⟨k + 1, hlt, by go_num, HO2.out⟩
          case measure => simp [intOf]; omega
        | false =>
          have hk0 : k ≠ 0 := fun e => by subst e; rw [HL0.out] at hl; cases hl
          have HLI := Lib.hid hl
          cases hd : dgtI (s[k].toNat : Int) with
          | true =>
            have HO2 : Hid (OkTo (bl s) (k + 1)) := hO.out.step hg.out (by unfold okC ltrB dgtB; rw [hl, hd]; simp [hk0])
            have HDI := Lib.hid hd
            clear hl hd
            go_wp2_with (first
              | (go_at_call 195; refine (rletter_any _ _).mono ?_; rintro e w' ⟨rfl, rfl⟩; rw [HLI.out])
              | (go_at_call 196; refine (rdigit_any _ _).mono ?_; rintro e w' ⟨rfl, rfl⟩; rw [HDI.out]))
            go_round
            case rel => exact ⟨k + 1, hlt, by go_num, HO2.out⟩
            case measure => simp [intOf]; omega
          | false =>
            have hF : Hid (partB s = false) := by
              show _ = _
              rw [HV.out]; exact word_bad hg.out (by unfold okC ltrB dgtB; rw [hl, hd]; simp)
            have HDI := Lib.hid hd
            clear hl hd
            go_wp2_with (first
              | (go_at_call 195; refine (rletter_any _ _).mono ?_; rintro e w' ⟨rfl, rfl⟩; rw [HLI.out])
              | (go_at_call 196; refine (rdigit_any _ _).mono ?_; rintro e w' ⟨rfl, rfl⟩; rw [HDI.out]))
            go_ret
            exact ⟨ret_bool hF.out.symm, rfl⟩
      · have hlz : ¬ (k : Int) < (s.size : Int) := by omega
        have hF : Hid (partB s = true) := by
          show _ = _
          rw [HV.out, wordL_iff]
          have hkl : k = (bl s).length := by have := HL.out; unfold bl; omega
          refine ⟨fun e => by rw [e] at hkl; simp at hkl; omega, ?_⟩
          have h1 := hO.out
          rwa [hkl] at h1
        go_wp2
        go_ret
        exact ⟨ret_bool hF.out.symm, rfl⟩

def szOf : Value → Nat
  | .string t => t.size
  | _ => 0
set_option maxHeartbeats 1000000 in
theorem rlabel_any (s : ByteArray) (w : World) (hs : s.size ≤ maxLen) :
    Calls Tryz.prog 99 #[.string s] w fun e w' => e = .returned (.bool (labB s)) ∧ w = w' := by
  unfold maxLen at hs
  have HL := Lib.hid (size_len s)
  by_cases c1 : 90 < (s.size : Int)
  · have hv : Hid (labB s = false) := by
      show _ = _
      have := HL.out
      unfold labB labL bl; rw [decide_eq_false (by omega), Bool.false_and]
    go_enter Tryz.func99, Tryz.ntmps99
    go_wp2_with fail
    go_ret
    exact ⟨ret_bool hv.out.symm, rfl⟩
  have HN : Hid (labB s = (splitS (bl s)).all partL) := by
    show _ = _
    have := HL.out
    unfold labB labL; rw [decide_eq_true (by unfold bl; omega), Bool.true_and]
  have hs1 : s.size ≤ 90 := by omega
  go_enter Tryz.func99, Tryz.ntmps99
  go_wp2_with (go_at_call 152; refine (rslash_any _ _ (by unfold maxLen; omega)).mono ?_; rintro e w' ⟨rfl, rfl⟩)
  go_loop [0, 3] (fun a b => ∃ (t : ByteArray), t.size ≤ 90 ∧ a = .string t ∧ b = .int .i64 (slashL (bl t) : Nat) ∧ Hid ((splitS (bl s)).all partL = (splitS (bl t)).all partL)) (fun a _ => szOf a)
  case atStart => exact ⟨s, hs1, rfl, rfl, rfl⟩
  case round =>
    obtain ⟨t, ht, rfl, rfl, hA⟩ := hrel
    have hsl := slashL_le (bl t)
    have htl := size_len t
    have htl2 : (bl t).length = t.size := htl.symm
    obtain ⟨k, hk⟩ : ∃ k, slashL (bl t) = k := ⟨_, rfl⟩
    have HSP := Lib.hid (splitS_slash (bl t))
    rw [hk] at HSP hsl ⊢
    have HK := Lib.hid hk
    clear hk htl
    rw [htl2] at hsl HSP
    have HEX : Hid (bl (t.extract 0 k) = (bl t).take k) := by show _ = _; unfold bl; rw [extract_list]; simp
    have HEY : Hid (bl (t.extract (k + 1) t.size) = (bl t).drop (k + 1)) := by
      show _ = _
      unfold bl; rw [extract_list, List.take_of_length_le (by rw [List.length_drop]; unfold bl at htl2; omega)]
    by_cases hlt : k < t.size
    · have hlz : (k : Int) < (t.size : Int) := by omega
      have HSP2 : Hid (splitS (bl t) = (bl t).take k :: splitS ((bl t).drop (k + 1))) := by show _ = _; rw [HSP.out, if_pos hlt]
      cases hp : partB (t.extract 0 k) with
      | false =>
        have hF : Hid (labB s = false) := by
          show _ = _
          rw [HN.out, hA.out, HSP2.out, List.all_cons, ← HEX.out]
          show (partB (t.extract 0 k) && _) = false
          rw [hp, Bool.false_and]
        have HP := Lib.hid hp
        clear hp
        go_wp2_with (go_at_call 153; refine (rword_any _ _ (by rw [ByteArray.size_extract]; unfold maxLen; omega)).mono ?_; rintro e w' ⟨rfl, rfl⟩; rw [HP.out])
        go_ret
        exact ⟨ret_bool hF.out.symm, rfl⟩
      | true =>
        have HA2 : Hid ((splitS (bl s)).all partL = (splitS (bl (t.extract (k + 1) t.size))).all partL) := by
          show _ = _
          rw [hA.out, HSP2.out, List.all_cons, ← HEX.out, HEY.out]
          show (partB (t.extract 0 k) && _) = _
          rw [hp, Bool.true_and]
        have hz2 : (t.extract (k + 1) t.size).size = t.size - (k + 1) := by rw [ByteArray.size_extract]; omega
        have HZ2 := Lib.hid hz2
        have HP := Lib.hid hp
        clear hp hz2
        go_wp2_with (first
          | (go_at_call 153; refine (rword_any _ _ (by rw [ByteArray.size_extract]; unfold maxLen; omega)).mono ?_; rintro e w' ⟨rfl, rfl⟩; rw [HP.out])
          | (go_at_call 152; refine (rslash_any _ _ (by rw [ByteArray.size_extract]; unfold maxLen; omega)).mono ?_; rintro e w' ⟨rfl, rfl⟩))
        go_round
        case rel => exact ⟨_, by rw [HZ2.out]; omega, rfl, rfl, HA2.out⟩
        case measure => show (t.extract (k + 1) t.size).size < t.size; rw [HZ2.out]; omega
    · have hlz : ¬ (k : Int) < (t.size : Int) := by omega
      have hF : Hid (labB s = partB t) := by
        show _ = _
        rw [HN.out, hA.out, HSP.out, if_neg hlt]; simp [partB]
      go_wp2_with (go_at_call 153; refine (rword_any _ _ (by unfold maxLen; omega)).mono ?_; rintro e w' ⟨rfl, rfl⟩)
      go_ret
      exact ⟨ret_bool hF.out.symm, rfl⟩
end Go.Proofs.YtddlohbhchjjhaaGreatDoor

namespace Go.Proofs.YtddlohbhchjjhaaGreatDoor
open Go.RowKit Go.Shelf

theorem splitS_snoc (l : List UInt8) : splitS (l ++ [47]) = splitS l ++ [[]] := by
  induction l with
  | nil => rfl
  | cons c r ih =>
    rw [List.cons_append]; unfold splitS; rw [ih]
    by_cases h : c = 47
    · simp [h]
    · simp only [if_neg h]
      cases hs : splitS r with
      | nil => exact absurd hs (splitS_ne r)
      | cons a b => rfl
theorem labL_slash (l : List UInt8) : labL (l ++ [47]) = false := by
  unfold labL
  rw [splitS_snoc, List.all_append]
  simp [partL, wordL]
/-- the reference's way to say what may stand in Visible -/
def seenB (s : ByteArray) : Bool := decide (s = starW) || (frlB s || (decide (1 < s.size) && (Lib.hasSuffix (bl s) [47] && labL ((bl s).take (s.size - 1)))))
theorem seen_view (s : ByteArray) : seenB s = viewB s := by
  have hsz := size_len s
  have hb : bl s = s.data.toList := rfl
  unfold viewB seenB
  by_cases h : Lib.hasSuffix (bl s) [47] = true
  · rw [if_pos h]
    obtain ⟨m, hm⟩ := List.isSuffixOf_iff_suffix.1 h
    have hl : labB s = false := by unfold labB; rw [← hm]; exact labL_slash m
    have hf : frlB s = false := by unfold frlB; rw [hl]; rfl
    have hs : decide (s = starW) = false := by
      rw [decide_eq_false_iff_not]; intro e
      rw [e] at hm
      have : (bl starW) = [] ++ [42] := rfl
      rw [this] at hm
      have := List.append_inj_right' hm rfl
      cases this
    have ht : Lib.trimSuffix (bl s) [47] = m := by
      unfold Lib.trimSuffix; rw [if_pos h, ← hm]; simp
    have hn : s.size = m.length + 1 := by rw [hsz, ← hb, ← hm]; simp
    rw [hs, hf, ht, h, hn]
    have e2 : (bl s).take (m.length + 1 - 1) = m := by rw [← hm]; simp
    rw [e2]
    cases m with
    | nil => rfl
    | cons a r => simp
  · rw [if_neg h]
    have h' : Lib.hasSuffix (bl s) [47] = false := by cases hc : Lib.hasSuffix (bl s) [47] with | true => exact absurd hc h | false => rfl
    rw [h']; simp
theorem suffix_at (s : ByteArray) (k : Nat) (h : s.size = k + 1) : Lib.hasSuffix (bl s) [47] = decide ((bl s)[k]? = some 47) := by
  have hsz := size_len s
  have hb : bl s = s.data.toList := rfl
  rw [Bool.eq_iff_iff, decide_eq_true_iff]
  constructor
  · intro h1
    obtain ⟨m, hm⟩ := List.isSuffixOf_iff_suffix.1 h1
    have : m.length = k := by rw [hb.symm, ← hm] at hsz; simp at hsz; omega
    rw [← hm, ← this]; simp
  · intro h1
    refine List.isSuffixOf_iff_suffix.2 ⟨(bl s).take k, ?_⟩
    have h2 := List.getElem?_eq_some_iff.1 h1
    have h3 := List.take_append_drop k (bl s)
    rw [List.drop_eq_getElem_cons h2.1, h2.2, List.drop_of_length_le (by rw [hb]; omega)] at h3
    exact h3

set_option maxHeartbeats 400000 in
theorem rreserved_any (s : ByteArray) (w : World) : Calls Tryz.prog 200 #[.string s] w fun e w' => e = .returned (.bool (resB s)) ∧ w = w' := by
  have h1 : (s.toList == [100, 101, 112, 115]) = decide (s = depsW) := str_lit s _; have h2 : (s.toList == [118, 105, 115, 105, 98, 108, 101]) = decide (s = visibleW) := str_lit s _
  by_cases e1 : s = depsW
  · have hv : Hid (resB s = true) := by show _ = _; unfold resB; rw [decide_eq_true e1]; rfl
    rw [decide_eq_true e1] at h1
    have h1' : (s.toList == [100, 101, 112, 115]) = true := h1
    clear h1 h2 e1
    go_enter Tryz.func200, Tryz.ntmps200
    go_wp2
    go_ret
    exact ⟨ret_bool hv.out.symm, rfl⟩
  · rw [decide_eq_false e1] at h1
    have h1' : (s.toList == [100, 101, 112, 115]) = false := h1
    by_cases e2 : s = visibleW
    · have hv : Hid (resB s = true) := by show _ = _; unfold resB; rw [decide_eq_true e2]; simp
      rw [decide_eq_true e2] at h2
      have h2' : (s.toList == [118, 105, 115, 105, 98, 108, 101]) = true := h2
      clear h1 h2 e1 e2
      go_enter Tryz.func200, Tryz.ntmps200
      go_wp2
      go_ret
      exact ⟨ret_bool hv.out.symm, rfl⟩
    · have hv : Hid (resB s = false) := by show _ = _; unfold resB; rw [decide_eq_false e1, decide_eq_false e2]; rfl
      rw [decide_eq_false e2] at h2
      have h2' : (s.toList == [118, 105, 115, 105, 98, 108, 101]) = false := h2
      clear h1 h2 e1 e2
      go_enter Tryz.func200, Tryz.ntmps200
      go_wp2
      go_ret
      exact ⟨ret_bool hv.out.symm, rfl⟩
set_option maxHeartbeats 400000 in
theorem rfree_any (s : ByteArray) (w : World) (hs : s.size ≤ maxLen) : Calls Tryz.prog 229 #[.string s] w fun e w' => e = .returned (.bool (frlB s)) ∧ w = w' := by
  go_enter Tryz.func229, Tryz.ntmps229
  cases hl : labB s with
  | false =>
    have hv : Hid (frlB s = false) := by show _ = _; unfold frlB; rw [hl]; rfl
    have HL := Lib.hid hl
    clear hl
    go_wp2_with (go_at_call 99; refine (rlabel_any _ _ hs).mono ?_; rintro e w1 ⟨rfl, rfl⟩; rw [HL.out])
    go_ret
    exact ⟨ret_bool hv.out.symm, rfl⟩
  | true =>
    have hv : Hid (frlB s = !resB s) := by show _ = _; unfold frlB; rw [hl]; rfl
    have HL := Lib.hid hl
    clear hl
    go_wp2_with (first
      | (go_at_call 99; refine (rlabel_any _ _ hs).mono ?_; rintro e w1 ⟨rfl, rfl⟩; rw [HL.out])
      | (go_at_call 200; refine (rreserved_any _ _).mono ?_; rintro e w2 ⟨rfl, rfl⟩))
    go_ret
    exact ⟨ret_bool hv.out.symm, rfl⟩
set_option maxHeartbeats 1000000 in
theorem rseen_any (s : ByteArray) (w : World) (hs : s.size ≤ maxLen) : Calls Tryz.prog 228 #[.string s] w fun e w' => e = .returned (.bool (viewB s)) ∧ w = w' := by
  rw [← seen_view]
  have hs' : s.size ≤ 9223372036854775807 := by unfold maxLen at hs; exact hs
  have HFL := Lib.hid (rfree_any s w hs)
  go_enter Tryz.func228, Tryz.ntmps228
  have h1 : (s.toList == [42]) = decide (s = starW) := str_lit s _
  by_cases e1 : s = starW
  · have hv : Hid (seenB s = true) := by show _ = _; unfold seenB; rw [decide_eq_true e1]; rfl
    rw [decide_eq_true e1] at h1
    have h1' : (s.toList == [42]) = true := h1
    clear h1 e1
    go_wp2_with fail
    go_ret
    exact ⟨ret_bool hv.out.symm, rfl⟩
  have hv : Hid (seenB s = (frlB s || (decide (1 < s.size) && (Lib.hasSuffix (bl s) [47] && labL ((bl s).take (s.size - 1)))))) := by show _ = _; unfold seenB; rw [decide_eq_false e1, Bool.false_or]
  rw [decide_eq_false e1] at h1
  have h1' : (s.toList == [42]) = false := h1
  clear h1 e1
  cases hf : frlB s with
  | true =>
    rw [hf] at HFL hv
    clear hf
    go_wp2_with (go_at_call 229; refine HFL.out.mono ?_; rintro e w1 ⟨rfl, rfl⟩)
    go_ret
    exact ⟨ret_bool (by rw [hv.out]; rfl), rfl⟩
  | false =>
    rw [hf] at HFL hv
    rw [Bool.false_or] at hv
    clear hf
    by_cases hn : 1 < s.size
    · rw [decide_eq_true hn, Bool.true_and] at hv
      obtain ⟨k, hk⟩ : ∃ k, s.size = k + 1 := ⟨s.size - 1, by omega⟩
      rw [suffix_at s k hk, hk, Nat.add_sub_cancel] at hv
      have hks : k < s.size := by omega
      have hg := get_data s k hks
      have hg2 : (bl s)[k]? = some s[k] := hg
      rw [hg2] at hv
      have hn1 : (s.size : Int) - 1 = (k : Int) := by omega
      have hn2 : (0 : Int) < (k : Int) := by omega
      have hn3 : (k : Int) < (s.size : Int) := by omega
      clear hg hg2 hn
      by_cases h47 : s[k] = 47
      · have t1 : (((s[k].toNat : Nat) : Int) == 47) = true := by simp [h47]
        rw [h47] at hv
        simp only [decide_true, Bool.true_and] at hv
        have HLA := Lib.hid (rlabel_any (s.extract 0 k) w (by have h0 : (s.extract 0 k).size ≤ s.size := (by simp; omega); omega))
        have HEX : Hid (labB (s.extract 0 k) = labL ((bl s).take k)) := by show _ = _; unfold labB bl; rw [extract_list]; simp
        clear hk h47
        go_wp2_with (first
          | (go_at_call 229; refine HFL.out.mono ?_; rintro e w1 ⟨rfl, rfl⟩)
          | (go_at_call 99; refine HLA.out.mono ?_; rintro e w1 ⟨rfl, rfl⟩))
        go_ret
        exact ⟨ret_bool (by rw [hv.out, HEX.out]), rfl⟩
      · have t1 : (((s[k].toNat : Nat) : Int) == 47) = false := by
          rw [beq_eq_false_iff_ne]; intro e
          apply h47
          apply UInt8.toNat_inj.1
          show s[k].toNat = 47
          omega
        rw [decide_eq_false (fun e => h47 (Option.some.inj e)), Bool.false_and] at hv
        clear hk h47
        go_wp2_with (go_at_call 229; refine HFL.out.mono ?_; rintro e w1 ⟨rfl, rfl⟩)
        go_ret
        exact ⟨ret_bool hv.out.symm, rfl⟩
    · rw [decide_eq_false hn, Bool.false_and] at hv
      have hn2 : ¬ (0 : Int) < (s.size : Int) - 1 := by omega
      clear hn
      go_wp2_with (go_at_call 229; refine HFL.out.mono ?_; rintro e w1 ⟨rfl, rfl⟩)
      go_ret
      exact ⟨ret_bool hv.out.symm, rfl⟩

theorem infoStr3 : (Tryz.prog.info? 9).map (fun i => (i.zero, i.size, i.bytes)) = some (some (.string ⟨#[]⟩), 1, 16) := by kernel_rfl
set_option maxRecDepth 100000 in
set_option maxHeartbeats 2000000 in
theorem relem_any (A : Option Addr) (n c B : Nat) (l : List ByteArray) (w : World) (h : Sl w B 1 A n (strs l)) (hB : B ≤ w.heap.size) (hn : n ≤ c) (hc : c ≤ maxLen) (hls : ∀ x ∈ l, x.size ≤ maxLen) :
    Calls Tryz.prog 212 #[.slice A n c, .bool true] w fun e w' => e = .returned (.int .i64 (elE viewB [] l)) ∧ Below w.heap.size w w' := by
  have hnm : n ≤ 9223372036854775807 := by unfold maxLen at hc; omega
  have H := Lib.hid h; have HLS := Lib.hid hls
  have HLL : Hid (l.length = n) := by have := h.1; rw [strs_len] at this; show _ = _; omega
  clear h hls
  go_enter Tryz.func212, Tryz.ntmps212
  go_wp2
  go_loopw [5] (fun i wr => ∃ k : Nat, k ≤ n ∧ i = .int .i64 k ∧ Hid (elE viewB [] l = elE viewB (l.take k) (l.drop k)) ∧ Hid (Below w.heap.size w wr)) (fun i _ => n - (intOf i).toNat)
  case atStart => exact ⟨0, Nat.zero_le _, rfl, rfl, Below.refl _ _⟩
  case round =>
    obtain ⟨k, hk, rfl, hE, hBel⟩ := hrel
    by_cases hlt : k < n
    · obtain ⟨b, off, x, rfl, hb, hx, y0⟩ := (H.out.below hBel.out hB).str_at hlt
      have hxs := HLS.out x (List.mem_of_getElem? hx)
      have HT := Lib.hid (elE_take (ok := viewB) hx)
      have hlz : (k : Int) < (n : Int) := by omega
      clear hx
      cases hv : viewB x with
      | false =>
        have hF : Hid (elE viewB [] l = 6) := by show _ = _; rw [hE.out, HT.out, hv]; rfl
        have HV := Lib.hid hv
        clear hv
        go_wp2_with (go_at_call 228; refine (rseen_any _ _ hxs).mono ?_; rintro e w1 ⟨rfl, rfl⟩; rw [HV.out])
        go_ret
        exact ⟨ret_int hF.out.symm, hBel.out⟩
      | true =>
        have HV := Lib.hid hv
        have HT2 : Hid (elE viewB (l.take k) (l.drop k) = if memB (l.take k) x then 7 else elE viewB (l.take (k + 1)) (l.drop (k + 1))) := by show _ = _; rw [HT.out, hv]; rfl
        clear hv HT
        have hsl : ∀ w' : World, (Instr.sliceAt 33 (.slice (some ⟨b, off, none⟩) n c) none (some (.int .i64 k)) none).run Tryz.prog w' = .ok (.slice (some ⟨b, off, none⟩) k c) w' := fun w' => by
          obtain ⟨i0, hi0, _⟩ := info_parts infoStr3
          exact run_slice_to 33 i0 Tryz.underlying33 hi0 _ n c k (by omega) w'
        have HSL : Hid (∀ q : Nat, Calls Tryz.prog 73 #[.slice (some ⟨b, off, none⟩) k c, .string x] (wr.drewN q) fun e w' => e = .returned (.bool (memB (l.take k) x)) ∧ w' = wr.drewN q) :=
          fun q => (rhas_any (some ⟨b, off, none⟩) k n c B l x (wr.drewN q) ((H.out.below hBel.out hB).drewN q) hk hnm).mono (fun e w' h => ⟨h.1, h.2.symm⟩)
        cases hm : memB (l.take k) x with
        | true =>
          have hF : Hid (elE viewB [] l = 7) := by show _ = _; rw [hE.out, HT2.out, hm]; rfl
          rw [hm] at HSL
          clear hm
          go_wp2_with (go_at_call 228; refine (rseen_any _ _ hxs).mono ?_; rintro e w1 ⟨rfl, rfl⟩; rw [HV.out])
          go_quiet (first | (go_at_call 73; exact Calls.quiet_of_same (HSL.out _)))
          go_wp2
          go_ret
          exact ⟨ret_int hF.out.symm, below_drewN hBel.out _⟩
        | false =>
          have hF : Hid (elE viewB [] l = elE viewB (l.take (k + 1)) (l.drop (k + 1))) := by show _ = _; rw [hE.out, HT2.out, hm]; rfl
          rw [hm] at HSL
          clear hm
          go_wp2_with (go_at_call 228; refine (rseen_any _ _ hxs).mono ?_; rintro e w1 ⟨rfl, rfl⟩; rw [HV.out])
          go_quiet (first | (go_at_call 73; exact Calls.quiet_of_same (HSL.out _)))
          go_wp2
          go_roundw
          case rel => exact ⟨k + 1, hlt, by go_num, hF.out, below_drewN hBel.out _⟩
          case measure => simp [intOf]; omega
    · have hlz : ¬ (k : Int) < (n : Int) := by omega
      have hF : Hid (elE viewB [] l = 0) := by
        show _ = _
        rw [hE.out, List.drop_of_length_le (by rw [HLL.out]; omega)]; rfl
      go_wp2
      go_ret
      exact ⟨ret_int hF.out.symm, hBel.out⟩
set_option maxHeartbeats 400000 in
theorem relemNone_any (A : Option Addr) (c : Nat) (f : Bool) (w : World) : Calls Tryz.prog 212 #[.slice A 0 c, .bool f] w fun e w' => e = .returned (.int .i64 0) ∧ w = w' := by
  go_enter Tryz.func212, Tryz.ntmps212
  go_wp2
  go_loop [5] (fun i => i = .int .i64 0) (fun _ => 0)
  case atStart => rfl
  case round =>
    subst hrel
    go_wp2
    go_ret
    exact ⟨rfl, rfl⟩
def nameX : ByteArray := ⟨#[120]⟩
theorem lab_x : labB nameX = true := by decide
theorem res_x : resB nameX = false := by decide
set_option maxHeartbeats 400000 in
theorem wrapX : wrap64 ((nameX.size : Int) - 1) = 0 := by decide +kernel
theorem wrapY : wrap64 ((0 : Int) - 1) = -1 := by decide +kernel
theorem rslashX_any (w : World) : Calls Tryz.prog 202 #[.string nameX] w fun e w' => e = .returned (.int .i64 (-1)) ∧ w = w' := by
  go_enter Tryz.func202, Tryz.ntmps202
  go_wp2
  go_loop [3] (fun i => i = .int .i64 0 ∨ i = .int .i64 (-1)) (fun i => (intOf i + 1).toNat)
  case atStart => exact .inl (by rw [wrapX])
  case round =>
    rcases hrel with rfl | rfl
    · go_wp2
      go_round
      case rel => exact .inr rfl
      case measure => decide
    · go_wp2
      go_ret
      exact ⟨rfl, rfl⟩
theorem rnameX_any (w : World) : Calls Tryz.prog 156 #[.string nameX] w fun e w' => e = .returned (.bool true) ∧ w = w' := by
  go_enter Tryz.func156, Tryz.ntmps156
  go_wp2_with (first
    | (go_at_call 99; refine (rlabel_any _ _ (by decide)).mono ?_; rintro e w1 ⟨rfl, rfl⟩; rw [lab_x])
    | (go_at_call 202; refine (rslashX_any _).mono ?_; rintro e w1 ⟨rfl, rfl⟩))
  go_ret
  exact ⟨rfl, rfl⟩
set_option maxRecDepth 100000 in
set_option maxHeartbeats 1000000 in
theorem rrule_any (A : Option Addr) (n c B : Nat) (l : List ByteArray) (w : World) (h : Sl w B 1 A n (strs l)) (hB : B ≤ w.heap.size) (hn : n ≤ c) (hc : c ≤ maxLen) (hls : ∀ x ∈ l, x.size ≤ maxLen) :
    Calls Tryz.prog 159 #[.agg #[.int .i64 1, .string nameX, .slice none 0 0, .slice A n c]] w fun e w' => e = .returned (.int .i64 (visE l)) ∧ Below w.heap.size w w' := by
  have H := Lib.hid h; have HLS := Lib.hid hls
  have HLL : Hid (l.length = n) := by have := h.1; rw [strs_len] at this; show _ = _; omega
  clear h hls
  have hnm : n ≤ 9223372036854775807 := by unfold maxLen at hc; omega
  have HB0 : Hid (Below w.heap.size w (w.alloc (.cells #[.int .i64 1, .string nameX, .slice none 0 0, .slice A n c] 60))) := (Below.refl _ w).alloc (Nat.le_refl _) _
  have hk0 : Bk (w.alloc (.cells #[.int .i64 1, .string nameX, .slice none 0 0, .slice A n c] 60)) w.heap.size 60 #[.int .i64 1, .string nameX, .slice none 0 0, .slice A n c] := Bk.new w _ _
  have u0 := hk0.cell 0; have u1 := hk0.cell 1; have u2 := hk0.cell 2; have u3 := hk0.cell 3
  simp only [List.getElem?_toArray, List.getElem?_cons_succ, List.getElem?_cons_zero] at u0 u1 u2 u3
  clear hk0
  have HV := Lib.hid (relem_any A n c B l (w.alloc (.cells #[.int .i64 1, .string nameX, .slice none 0 0, .slice A n c] 60)) (H.out.below HB0.out hB) (Nat.le_trans hB HB0.out.size) hn hc HLS.out)
  go_enter Tryz.func159, Tryz.ntmps159
  by_cases hlong : 20 < n
  · have hF : Hid (visE l = 4) := by show _ = _; unfold visE; rw [if_pos (by rw [HLL.out]; exact hlong)]
    have hlz : (20 : Int) < (n : Int) := by omega
    go_wp2_with (first
      | (go_at_call 156; refine (rnameX_any _).mono ?_; rintro e w1 ⟨rfl, rfl⟩)
      | (go_at_call 200; refine (rreserved_any _ _).mono ?_; rintro e w1 ⟨rfl, rfl⟩; rw [res_x]))
    go_ret
    exact ⟨ret_int hF.out.symm, HB0.out⟩
  · have hF : Hid (visE l = elE viewB [] l) := by show _ = _; unfold visE; rw [if_neg (by rw [HLL.out]; exact hlong)]
    have hlz : ¬ (20 : Int) < (n : Int) := by omega
    go_wp2_with (first
      | (go_at_call 156; refine (rnameX_any _).mono ?_; rintro e w1 ⟨rfl, rfl⟩)
      | (go_at_call 200; refine (rreserved_any _ _).mono ?_; rintro e w1 ⟨rfl, rfl⟩; rw [res_x])
      | (go_at_call 212; refine (relemNone_any none 0 _ _).mono ?_; rintro e w2 ⟨rfl, rfl⟩; refine halt_ ?_))
    refine unhalt ?_
    go_wp2_with (go_at_call 212; refine HV.out.mono ?_; rintro e w2 ⟨rfl, hb2⟩)
    go_ret
    exact ⟨ret_int hF.out.symm, HB0.out.trans (hb2.mono HB0.out.size)⟩
set_option maxRecDepth 100000 in
set_option maxHeartbeats 2000000 in
/-- the one rule lies in block b -/
theorem rcheckOne_any (A : Option Addr) (n c B b : Nat) (l : List ByteArray) (w : World) (h : Sl w B 1 A n (strs l)) (hB : B ≤ w.heap.size) (hn : n ≤ c) (hc : c ≤ maxLen) (hls : ∀ x ∈ l, x.size ≤ maxLen) (hk : Bk w b 60 #[.int .i64 1, .string nameX, .slice none 0 0, .slice A n c]) :
    Calls Tryz.prog 110 #[.slice (some ⟨b, 0, none⟩) 1 1] w fun e w' => e = .returned (.int .i64 (visE l)) ∧ Below w.heap.size w w' := by
  have H := Lib.hid h; have HLS := Lib.hid hls; have HK := Lib.hid hk
  clear h hls hk
  have u0 := HK.out.cell 0; have u1 := HK.out.cell 1; have u2 := HK.out.cell 2; have u3 := HK.out.cell 3
  simp only [List.getElem?_toArray, List.getElem?_cons_succ, List.getElem?_cons_zero] at u0 u1 u2 u3
  have HC := Lib.hid (rrule_any A n c B l w H.out hB hn hc HLS.out)
  go_enter Tryz.func110, Tryz.ntmps110
  go_wp2
  go_loopw [3, 4] (fun i _ wr => (i = .int .i64 0 ∧ wr = w) ∨ (i = .int .i64 1 ∧ Hid (visE l = 0) ∧ Hid (Below w.heap.size w wr))) (fun i _ _ => 1 - (intOf i).toNat)
  case atStart => exact .inl ⟨rfl, rfl⟩
  case round =>
    rcases hrel with ⟨rfl, rfl⟩ | ⟨rfl, hE, hBel⟩
    · by_cases hv : visE l = 0
      · have HV := Lib.hid hv
        rw [hv] at HC
        clear hv
        go_wp2_with (go_at_call 159; refine HC.out.mono ?_; rintro e w2 ⟨rfl, hb2⟩; refine halt_ ?_)
        refine unhalt ?_
        have HB2 : Hid (Below wr.heap.size wr w2) := hb2
        clear hb2
        go_wp2
        go_loop [4, 5] (fun e i => e = .int .i64 0 ∧ i = .int .i64 0) (fun _ _ => 0)
        case atStart => exact ⟨rfl, rfl⟩
        case round =>
          obtain ⟨rfl, rfl⟩ := hrel
          go_wp2
          go_roundw
          case rel => exact .inr ⟨rfl, HV.out, HB2.out⟩
          case measure => simp [intOf]
      · have hv' : (visE l != 0) = true := by simpa using hv
        obtain ⟨v, hve⟩ : ∃ v, visE l = v := ⟨_, rfl⟩
        rw [hve] at HC hv'
        have HVE := Lib.hid hve
        clear hv hve
        go_wp2_with (go_at_call 159; refine HC.out.mono ?_; rintro e w2 ⟨rfl, hb2⟩)
        go_loop [4, 5] (fun e i => e = .int .i64 v ∧ i = .int .i64 0) (fun _ _ => 0)
        case atStart => exact ⟨rfl, rfl⟩
        case round =>
          obtain ⟨rfl, rfl⟩ := hrel
          go_wp2
          go_ret
          exact ⟨ret_int HVE.out.symm, hb2⟩
    · go_wp2
      go_ret
      exact ⟨ret_int hE.out.symm, hBel.out⟩
end Go.Proofs.YtddlohbhchjjhaaGreatDoor

namespace Go.Proofs.YtddlohbhchjjhaaGreatDoor

theorem ls1 {vs : List Value} (h : vs.length = 1) : ∃ v0, vs = v0 :: [] := by
  match vs, h with
  | v0 :: [], _ => exact ⟨_, rfl⟩
theorem ls2 {vs : List Value} (h : vs.length = 2) : ∃ v0 v1, vs = v0 :: v1 :: [] := by
  match vs, h with
  | v0 :: v1 :: [], _ => exact ⟨_, _, rfl⟩
theorem ls3 {vs : List Value} (h : vs.length = 3) : ∃ v0 v1 v2, vs = v0 :: v1 :: v2 :: [] := by
  match vs, h with
  | v0 :: v1 :: v2 :: [], _ => exact ⟨_, _, _, rfl⟩
theorem ls4 {vs : List Value} (h : vs.length = 4) : ∃ v0 v1 v2 v3, vs = v0 :: v1 :: v2 :: v3 :: [] := by
  match vs, h with
  | v0 :: v1 :: v2 :: v3 :: [], _ => exact ⟨_, _, _, _, rfl⟩
theorem ls5 {vs : List Value} (h : vs.length = 5) : ∃ v0 v1 v2 v3 v4, vs = v0 :: v1 :: v2 :: v3 :: v4 :: [] := by
  match vs, h with
  | v0 :: v1 :: v2 :: v3 :: v4 :: [], _ => exact ⟨_, _, _, _, _, rfl⟩
theorem ls6 {vs : List Value} (h : vs.length = 6) : ∃ v0 v1 v2 v3 v4 v5, vs = v0 :: v1 :: v2 :: v3 :: v4 :: v5 :: [] := by
  match vs, h with
  | v0 :: v1 :: v2 :: v3 :: v4 :: v5 :: [], _ => exact ⟨_, _, _, _, _, _, rfl⟩
theorem ls7 {vs : List Value} (h : vs.length = 7) : ∃ v0 v1 v2 v3 v4 v5 v6, vs = v0 :: v1 :: v2 :: v3 :: v4 :: v5 :: v6 :: [] := by
  match vs, h with
  | v0 :: v1 :: v2 :: v3 :: v4 :: v5 :: v6 :: [], _ => exact ⟨_, _, _, _, _, _, _, rfl⟩
theorem ls8 {vs : List Value} (h : vs.length = 8) : ∃ v0 v1 v2 v3 v4 v5 v6 v7, vs = v0 :: v1 :: v2 :: v3 :: v4 :: v5 :: v6 :: v7 :: [] := by
  match vs, h with
  | v0 :: v1 :: v2 :: v3 :: v4 :: v5 :: v6 :: v7 :: [], _ => exact ⟨_, _, _, _, _, _, _, _, rfl⟩
theorem ls9 {vs : List Value} (h : vs.length = 9) : ∃ v0 v1 v2 v3 v4 v5 v6 v7 v8, vs = v0 :: v1 :: v2 :: v3 :: v4 :: v5 :: v6 :: v7 :: v8 :: [] := by
  match vs, h with
  | v0 :: v1 :: v2 :: v3 :: v4 :: v5 :: v6 :: v7 :: v8 :: [], _ => exact ⟨_, _, _, _, _, _, _, _, _, rfl⟩
theorem ls10 {vs : List Value} (h : vs.length = 10) : ∃ v0 v1 v2 v3 v4 v5 v6 v7 v8 v9, vs = v0 :: v1 :: v2 :: v3 :: v4 :: v5 :: v6 :: v7 :: v8 :: v9 :: [] := by
  match vs, h with
  | v0 :: v1 :: v2 :: v3 :: v4 :: v5 :: v6 :: v7 :: v8 :: v9 :: [], _ => exact ⟨_, _, _, _, _, _, _, _, _, _, rfl⟩
theorem ls11 {vs : List Value} (h : vs.length = 11) : ∃ v0 v1 v2 v3 v4 v5 v6 v7 v8 v9 v10, vs = v0 :: v1 :: v2 :: v3 :: v4 :: v5 :: v6 :: v7 :: v8 :: v9 :: v10 :: [] := by
  match vs, h with
  | v0 :: v1 :: v2 :: v3 :: v4 :: v5 :: v6 :: v7 :: v8 :: v9 :: v10 :: [], _ => exact ⟨_, _, _, _, _, _, _, _, _, _, _, rfl⟩
theorem ls12 {vs : List Value} (h : vs.length = 12) : ∃ v0 v1 v2 v3 v4 v5 v6 v7 v8 v9 v10 v11, vs = v0 :: v1 :: v2 :: v3 :: v4 :: v5 :: v6 :: v7 :: v8 :: v9 :: v10 :: v11 :: [] := by
  match vs, h with
  | v0 :: v1 :: v2 :: v3 :: v4 :: v5 :: v6 :: v7 :: v8 :: v9 :: v10 :: v11 :: [], _ => exact ⟨_, _, _, _, _, _, _, _, _, _, _, _, rfl⟩
theorem ls13 {vs : List Value} (h : vs.length = 13) : ∃ v0 v1 v2 v3 v4 v5 v6 v7 v8 v9 v10 v11 v12, vs = v0 :: v1 :: v2 :: v3 :: v4 :: v5 :: v6 :: v7 :: v8 :: v9 :: v10 :: v11 :: v12 :: [] := by
  match vs, h with
  | v0 :: v1 :: v2 :: v3 :: v4 :: v5 :: v6 :: v7 :: v8 :: v9 :: v10 :: v11 :: v12 :: [], _ => exact ⟨_, _, _, _, _, _, _, _, _, _, _, _, _, rfl⟩
theorem ls14 {vs : List Value} (h : vs.length = 14) : ∃ v0 v1 v2 v3 v4 v5 v6 v7 v8 v9 v10 v11 v12 v13, vs = v0 :: v1 :: v2 :: v3 :: v4 :: v5 :: v6 :: v7 :: v8 :: v9 :: v10 :: v11 :: v12 :: v13 :: [] := by
  match vs, h with
  | v0 :: v1 :: v2 :: v3 :: v4 :: v5 :: v6 :: v7 :: v8 :: v9 :: v10 :: v11 :: v12 :: v13 :: [], _ => exact ⟨_, _, _, _, _, _, _, _, _, _, _, _, _, _, rfl⟩
theorem ls15 {vs : List Value} (h : vs.length = 15) : ∃ v0 v1 v2 v3 v4 v5 v6 v7 v8 v9 v10 v11 v12 v13 v14, vs = v0 :: v1 :: v2 :: v3 :: v4 :: v5 :: v6 :: v7 :: v8 :: v9 :: v10 :: v11 :: v12 :: v13 :: v14 :: [] := by
  match vs, h with
  | v0 :: v1 :: v2 :: v3 :: v4 :: v5 :: v6 :: v7 :: v8 :: v9 :: v10 :: v11 :: v12 :: v13 :: v14 :: [], _ => exact ⟨_, _, _, _, _, _, _, _, _, _, _, _, _, _, _, rfl⟩
theorem ls16 {vs : List Value} (h : vs.length = 16) : ∃ v0 v1 v2 v3 v4 v5 v6 v7 v8 v9 v10 v11 v12 v13 v14 v15, vs = v0 :: v1 :: v2 :: v3 :: v4 :: v5 :: v6 :: v7 :: v8 :: v9 :: v10 :: v11 :: v12 :: v13 :: v14 :: v15 :: [] := by
  match vs, h with
  | v0 :: v1 :: v2 :: v3 :: v4 :: v5 :: v6 :: v7 :: v8 :: v9 :: v10 :: v11 :: v12 :: v13 :: v14 :: v15 :: [], _ => exact ⟨_, _, _, _, _, _, _, _, _, _, _, _, _, _, _, _, rfl⟩
theorem ls17 {vs : List Value} (h : vs.length = 17) : ∃ v0 v1 v2 v3 v4 v5 v6 v7 v8 v9 v10 v11 v12 v13 v14 v15 v16, vs = v0 :: v1 :: v2 :: v3 :: v4 :: v5 :: v6 :: v7 :: v8 :: v9 :: v10 :: v11 :: v12 :: v13 :: v14 :: v15 :: v16 :: [] := by
  match vs, h with
  | v0 :: v1 :: v2 :: v3 :: v4 :: v5 :: v6 :: v7 :: v8 :: v9 :: v10 :: v11 :: v12 :: v13 :: v14 :: v15 :: v16 :: [], _ => exact ⟨_, _, _, _, _, _, _, _, _, _, _, _, _, _, _, _, _, rfl⟩
theorem ls18 {vs : List Value} (h : vs.length = 18) : ∃ v0 v1 v2 v3 v4 v5 v6 v7 v8 v9 v10 v11 v12 v13 v14 v15 v16 v17, vs = v0 :: v1 :: v2 :: v3 :: v4 :: v5 :: v6 :: v7 :: v8 :: v9 :: v10 :: v11 :: v12 :: v13 :: v14 :: v15 :: v16 :: v17 :: [] := by
  match vs, h with
  | v0 :: v1 :: v2 :: v3 :: v4 :: v5 :: v6 :: v7 :: v8 :: v9 :: v10 :: v11 :: v12 :: v13 :: v14 :: v15 :: v16 :: v17 :: [], _ => exact ⟨_, _, _, _, _, _, _, _, _, _, _, _, _, _, _, _, _, _, rfl⟩
theorem ls19 {vs : List Value} (h : vs.length = 19) : ∃ v0 v1 v2 v3 v4 v5 v6 v7 v8 v9 v10 v11 v12 v13 v14 v15 v16 v17 v18, vs = v0 :: v1 :: v2 :: v3 :: v4 :: v5 :: v6 :: v7 :: v8 :: v9 :: v10 :: v11 :: v12 :: v13 :: v14 :: v15 :: v16 :: v17 :: v18 :: [] := by
  match vs, h with
  | v0 :: v1 :: v2 :: v3 :: v4 :: v5 :: v6 :: v7 :: v8 :: v9 :: v10 :: v11 :: v12 :: v13 :: v14 :: v15 :: v16 :: v17 :: v18 :: [], _ => exact ⟨_, _, _, _, _, _, _, _, _, _, _, _, _, _, _, _, _, _, _, rfl⟩
theorem ls20 {vs : List Value} (h : vs.length = 20) : ∃ v0 v1 v2 v3 v4 v5 v6 v7 v8 v9 v10 v11 v12 v13 v14 v15 v16 v17 v18 v19, vs = v0 :: v1 :: v2 :: v3 :: v4 :: v5 :: v6 :: v7 :: v8 :: v9 :: v10 :: v11 :: v12 :: v13 :: v14 :: v15 :: v16 :: v17 :: v18 :: v19 :: [] := by
  match vs, h with
  | v0 :: v1 :: v2 :: v3 :: v4 :: v5 :: v6 :: v7 :: v8 :: v9 :: v10 :: v11 :: v12 :: v13 :: v14 :: v15 :: v16 :: v17 :: v18 :: v19 :: [], _ => exact ⟨_, _, _, _, _, _, _, _, _, _, _, _, _, _, _, _, _, _, _, _, rfl⟩
theorem ls21 {vs : List Value} (h : vs.length = 21) : ∃ v0 v1 v2 v3 v4 v5 v6 v7 v8 v9 v10 v11 v12 v13 v14 v15 v16 v17 v18 v19 v20, vs = v0 :: v1 :: v2 :: v3 :: v4 :: v5 :: v6 :: v7 :: v8 :: v9 :: v10 :: v11 :: v12 :: v13 :: v14 :: v15 :: v16 :: v17 :: v18 :: v19 :: v20 :: [] := by
  match vs, h with
  | v0 :: v1 :: v2 :: v3 :: v4 :: v5 :: v6 :: v7 :: v8 :: v9 :: v10 :: v11 :: v12 :: v13 :: v14 :: v15 :: v16 :: v17 :: v18 :: v19 :: v20 :: [], _ => exact ⟨_, _, _, _, _, _, _, _, _, _, _, _, _, _, _, _, _, _, _, _, _, rfl⟩
theorem ls22 {vs : List Value} (h : vs.length = 22) : ∃ v0 v1 v2 v3 v4 v5 v6 v7 v8 v9 v10 v11 v12 v13 v14 v15 v16 v17 v18 v19 v20 v21, vs = v0 :: v1 :: v2 :: v3 :: v4 :: v5 :: v6 :: v7 :: v8 :: v9 :: v10 :: v11 :: v12 :: v13 :: v14 :: v15 :: v16 :: v17 :: v18 :: v19 :: v20 :: v21 :: [] := by
  match vs, h with
  | v0 :: v1 :: v2 :: v3 :: v4 :: v5 :: v6 :: v7 :: v8 :: v9 :: v10 :: v11 :: v12 :: v13 :: v14 :: v15 :: v16 :: v17 :: v18 :: v19 :: v20 :: v21 :: [], _ => exact ⟨_, _, _, _, _, _, _, _, _, _, _, _, _, _, _, _, _, _, _, _, _, _, rfl⟩
theorem ls23 {vs : List Value} (h : vs.length = 23) : ∃ v0 v1 v2 v3 v4 v5 v6 v7 v8 v9 v10 v11 v12 v13 v14 v15 v16 v17 v18 v19 v20 v21 v22, vs = v0 :: v1 :: v2 :: v3 :: v4 :: v5 :: v6 :: v7 :: v8 :: v9 :: v10 :: v11 :: v12 :: v13 :: v14 :: v15 :: v16 :: v17 :: v18 :: v19 :: v20 :: v21 :: v22 :: [] := by
  match vs, h with
  | v0 :: v1 :: v2 :: v3 :: v4 :: v5 :: v6 :: v7 :: v8 :: v9 :: v10 :: v11 :: v12 :: v13 :: v14 :: v15 :: v16 :: v17 :: v18 :: v19 :: v20 :: v21 :: v22 :: [], _ => exact ⟨_, _, _, _, _, _, _, _, _, _, _, _, _, _, _, _, _, _, _, _, _, _, _, rfl⟩
theorem ls24 {vs : List Value} (h : vs.length = 24) : ∃ v0 v1 v2 v3 v4 v5 v6 v7 v8 v9 v10 v11 v12 v13 v14 v15 v16 v17 v18 v19 v20 v21 v22 v23, vs = v0 :: v1 :: v2 :: v3 :: v4 :: v5 :: v6 :: v7 :: v8 :: v9 :: v10 :: v11 :: v12 :: v13 :: v14 :: v15 :: v16 :: v17 :: v18 :: v19 :: v20 :: v21 :: v22 :: v23 :: [] := by
  match vs, h with
  | v0 :: v1 :: v2 :: v3 :: v4 :: v5 :: v6 :: v7 :: v8 :: v9 :: v10 :: v11 :: v12 :: v13 :: v14 :: v15 :: v16 :: v17 :: v18 :: v19 :: v20 :: v21 :: v22 :: v23 :: [], _ => exact ⟨_, _, _, _, _, _, _, _, _, _, _, _, _, _, _, _, _, _, _, _, _, _, _, _, rfl⟩
theorem ls25 {vs : List Value} (h : vs.length = 25) : ∃ v0 v1 v2 v3 v4 v5 v6 v7 v8 v9 v10 v11 v12 v13 v14 v15 v16 v17 v18 v19 v20 v21 v22 v23 v24, vs = v0 :: v1 :: v2 :: v3 :: v4 :: v5 :: v6 :: v7 :: v8 :: v9 :: v10 :: v11 :: v12 :: v13 :: v14 :: v15 :: v16 :: v17 :: v18 :: v19 :: v20 :: v21 :: v22 :: v23 :: v24 :: [] := by
  match vs, h with
  | v0 :: v1 :: v2 :: v3 :: v4 :: v5 :: v6 :: v7 :: v8 :: v9 :: v10 :: v11 :: v12 :: v13 :: v14 :: v15 :: v16 :: v17 :: v18 :: v19 :: v20 :: v21 :: v22 :: v23 :: v24 :: [], _ => exact ⟨_, _, _, _, _, _, _, _, _, _, _, _, _, _, _, _, _, _, _, _, _, _, _, _, _, rfl⟩
theorem ls26 {vs : List Value} (h : vs.length = 26) : ∃ v0 v1 v2 v3 v4 v5 v6 v7 v8 v9 v10 v11 v12 v13 v14 v15 v16 v17 v18 v19 v20 v21 v22 v23 v24 v25, vs = v0 :: v1 :: v2 :: v3 :: v4 :: v5 :: v6 :: v7 :: v8 :: v9 :: v10 :: v11 :: v12 :: v13 :: v14 :: v15 :: v16 :: v17 :: v18 :: v19 :: v20 :: v21 :: v22 :: v23 :: v24 :: v25 :: [] := by
  match vs, h with
  | v0 :: v1 :: v2 :: v3 :: v4 :: v5 :: v6 :: v7 :: v8 :: v9 :: v10 :: v11 :: v12 :: v13 :: v14 :: v15 :: v16 :: v17 :: v18 :: v19 :: v20 :: v21 :: v22 :: v23 :: v24 :: v25 :: [], _ => exact ⟨_, _, _, _, _, _, _, _, _, _, _, _, _, _, _, _, _, _, _, _, _, _, _, _, _, _, rfl⟩
theorem ls27 {vs : List Value} (h : vs.length = 27) : ∃ v0 v1 v2 v3 v4 v5 v6 v7 v8 v9 v10 v11 v12 v13 v14 v15 v16 v17 v18 v19 v20 v21 v22 v23 v24 v25 v26, vs = v0 :: v1 :: v2 :: v3 :: v4 :: v5 :: v6 :: v7 :: v8 :: v9 :: v10 :: v11 :: v12 :: v13 :: v14 :: v15 :: v16 :: v17 :: v18 :: v19 :: v20 :: v21 :: v22 :: v23 :: v24 :: v25 :: v26 :: [] := by
  match vs, h with
  | v0 :: v1 :: v2 :: v3 :: v4 :: v5 :: v6 :: v7 :: v8 :: v9 :: v10 :: v11 :: v12 :: v13 :: v14 :: v15 :: v16 :: v17 :: v18 :: v19 :: v20 :: v21 :: v22 :: v23 :: v24 :: v25 :: v26 :: [], _ => exact ⟨_, _, _, _, _, _, _, _, _, _, _, _, _, _, _, _, _, _, _, _, _, _, _, _, _, _, _, rfl⟩
theorem ls28 {vs : List Value} (h : vs.length = 28) : ∃ v0 v1 v2 v3 v4 v5 v6 v7 v8 v9 v10 v11 v12 v13 v14 v15 v16 v17 v18 v19 v20 v21 v22 v23 v24 v25 v26 v27, vs = v0 :: v1 :: v2 :: v3 :: v4 :: v5 :: v6 :: v7 :: v8 :: v9 :: v10 :: v11 :: v12 :: v13 :: v14 :: v15 :: v16 :: v17 :: v18 :: v19 :: v20 :: v21 :: v22 :: v23 :: v24 :: v25 :: v26 :: v27 :: [] := by
  match vs, h with
  | v0 :: v1 :: v2 :: v3 :: v4 :: v5 :: v6 :: v7 :: v8 :: v9 :: v10 :: v11 :: v12 :: v13 :: v14 :: v15 :: v16 :: v17 :: v18 :: v19 :: v20 :: v21 :: v22 :: v23 :: v24 :: v25 :: v26 :: v27 :: [], _ => exact ⟨_, _, _, _, _, _, _, _, _, _, _, _, _, _, _, _, _, _, _, _, _, _, _, _, _, _, _, _, rfl⟩
theorem ls29 {vs : List Value} (h : vs.length = 29) : ∃ v0 v1 v2 v3 v4 v5 v6 v7 v8 v9 v10 v11 v12 v13 v14 v15 v16 v17 v18 v19 v20 v21 v22 v23 v24 v25 v26 v27 v28, vs = v0 :: v1 :: v2 :: v3 :: v4 :: v5 :: v6 :: v7 :: v8 :: v9 :: v10 :: v11 :: v12 :: v13 :: v14 :: v15 :: v16 :: v17 :: v18 :: v19 :: v20 :: v21 :: v22 :: v23 :: v24 :: v25 :: v26 :: v27 :: v28 :: [] := by
  match vs, h with
  | v0 :: v1 :: v2 :: v3 :: v4 :: v5 :: v6 :: v7 :: v8 :: v9 :: v10 :: v11 :: v12 :: v13 :: v14 :: v15 :: v16 :: v17 :: v18 :: v19 :: v20 :: v21 :: v22 :: v23 :: v24 :: v25 :: v26 :: v27 :: v28 :: [], _ => exact ⟨_, _, _, _, _, _, _, _, _, _, _, _, _, _, _, _, _, _, _, _, _, _, _, _, _, _, _, _, _, rfl⟩
theorem ls30 {vs : List Value} (h : vs.length = 30) : ∃ v0 v1 v2 v3 v4 v5 v6 v7 v8 v9 v10 v11 v12 v13 v14 v15 v16 v17 v18 v19 v20 v21 v22 v23 v24 v25 v26 v27 v28 v29, vs = v0 :: v1 :: v2 :: v3 :: v4 :: v5 :: v6 :: v7 :: v8 :: v9 :: v10 :: v11 :: v12 :: v13 :: v14 :: v15 :: v16 :: v17 :: v18 :: v19 :: v20 :: v21 :: v22 :: v23 :: v24 :: v25 :: v26 :: v27 :: v28 :: v29 :: [] := by
  match vs, h with
  | v0 :: v1 :: v2 :: v3 :: v4 :: v5 :: v6 :: v7 :: v8 :: v9 :: v10 :: v11 :: v12 :: v13 :: v14 :: v15 :: v16 :: v17 :: v18 :: v19 :: v20 :: v21 :: v22 :: v23 :: v24 :: v25 :: v26 :: v27 :: v28 :: v29 :: [], _ => exact ⟨_, _, _, _, _, _, _, _, _, _, _, _, _, _, _, _, _, _, _, _, _, _, _, _, _, _, _, _, _, _, rfl⟩
theorem ls31 {vs : List Value} (h : vs.length = 31) : ∃ v0 v1 v2 v3 v4 v5 v6 v7 v8 v9 v10 v11 v12 v13 v14 v15 v16 v17 v18 v19 v20 v21 v22 v23 v24 v25 v26 v27 v28 v29 v30, vs = v0 :: v1 :: v2 :: v3 :: v4 :: v5 :: v6 :: v7 :: v8 :: v9 :: v10 :: v11 :: v12 :: v13 :: v14 :: v15 :: v16 :: v17 :: v18 :: v19 :: v20 :: v21 :: v22 :: v23 :: v24 :: v25 :: v26 :: v27 :: v28 :: v29 :: v30 :: [] := by
  match vs, h with
  | v0 :: v1 :: v2 :: v3 :: v4 :: v5 :: v6 :: v7 :: v8 :: v9 :: v10 :: v11 :: v12 :: v13 :: v14 :: v15 :: v16 :: v17 :: v18 :: v19 :: v20 :: v21 :: v22 :: v23 :: v24 :: v25 :: v26 :: v27 :: v28 :: v29 :: v30 :: [], _ => exact ⟨_, _, _, _, _, _, _, _, _, _, _, _, _, _, _, _, _, _, _, _, _, _, _, _, _, _, _, _, _, _, _, rfl⟩
theorem ls32 {vs : List Value} (h : vs.length = 32) : ∃ v0 v1 v2 v3 v4 v5 v6 v7 v8 v9 v10 v11 v12 v13 v14 v15 v16 v17 v18 v19 v20 v21 v22 v23 v24 v25 v26 v27 v28 v29 v30 v31, vs = v0 :: v1 :: v2 :: v3 :: v4 :: v5 :: v6 :: v7 :: v8 :: v9 :: v10 :: v11 :: v12 :: v13 :: v14 :: v15 :: v16 :: v17 :: v18 :: v19 :: v20 :: v21 :: v22 :: v23 :: v24 :: v25 :: v26 :: v27 :: v28 :: v29 :: v30 :: v31 :: [] := by
  match vs, h with
  | v0 :: v1 :: v2 :: v3 :: v4 :: v5 :: v6 :: v7 :: v8 :: v9 :: v10 :: v11 :: v12 :: v13 :: v14 :: v15 :: v16 :: v17 :: v18 :: v19 :: v20 :: v21 :: v22 :: v23 :: v24 :: v25 :: v26 :: v27 :: v28 :: v29 :: v30 :: v31 :: [], _ => exact ⟨_, _, _, _, _, _, _, _, _, _, _, _, _, _, _, _, _, _, _, _, _, _, _, _, _, _, _, _, _, _, _, _, rfl⟩
theorem ls33 {vs : List Value} (h : vs.length = 33) : ∃ v0 v1 v2 v3 v4 v5 v6 v7 v8 v9 v10 v11 v12 v13 v14 v15 v16 v17 v18 v19 v20 v21 v22 v23 v24 v25 v26 v27 v28 v29 v30 v31 v32, vs = v0 :: v1 :: v2 :: v3 :: v4 :: v5 :: v6 :: v7 :: v8 :: v9 :: v10 :: v11 :: v12 :: v13 :: v14 :: v15 :: v16 :: v17 :: v18 :: v19 :: v20 :: v21 :: v22 :: v23 :: v24 :: v25 :: v26 :: v27 :: v28 :: v29 :: v30 :: v31 :: v32 :: [] := by
  match vs, h with
  | v0 :: v1 :: v2 :: v3 :: v4 :: v5 :: v6 :: v7 :: v8 :: v9 :: v10 :: v11 :: v12 :: v13 :: v14 :: v15 :: v16 :: v17 :: v18 :: v19 :: v20 :: v21 :: v22 :: v23 :: v24 :: v25 :: v26 :: v27 :: v28 :: v29 :: v30 :: v31 :: v32 :: [], _ => exact ⟨_, _, _, _, _, _, _, _, _, _, _, _, _, _, _, _, _, _, _, _, _, _, _, _, _, _, _, _, _, _, _, _, _, rfl⟩
theorem ls34 {vs : List Value} (h : vs.length = 34) : ∃ v0 v1 v2 v3 v4 v5 v6 v7 v8 v9 v10 v11 v12 v13 v14 v15 v16 v17 v18 v19 v20 v21 v22 v23 v24 v25 v26 v27 v28 v29 v30 v31 v32 v33, vs = v0 :: v1 :: v2 :: v3 :: v4 :: v5 :: v6 :: v7 :: v8 :: v9 :: v10 :: v11 :: v12 :: v13 :: v14 :: v15 :: v16 :: v17 :: v18 :: v19 :: v20 :: v21 :: v22 :: v23 :: v24 :: v25 :: v26 :: v27 :: v28 :: v29 :: v30 :: v31 :: v32 :: v33 :: [] := by
  match vs, h with
  | v0 :: v1 :: v2 :: v3 :: v4 :: v5 :: v6 :: v7 :: v8 :: v9 :: v10 :: v11 :: v12 :: v13 :: v14 :: v15 :: v16 :: v17 :: v18 :: v19 :: v20 :: v21 :: v22 :: v23 :: v24 :: v25 :: v26 :: v27 :: v28 :: v29 :: v30 :: v31 :: v32 :: v33 :: [], _ => exact ⟨_, _, _, _, _, _, _, _, _, _, _, _, _, _, _, _, _, _, _, _, _, _, _, _, _, _, _, _, _, _, _, _, _, _, rfl⟩
theorem ls35 {vs : List Value} (h : vs.length = 35) : ∃ v0 v1 v2 v3 v4 v5 v6 v7 v8 v9 v10 v11 v12 v13 v14 v15 v16 v17 v18 v19 v20 v21 v22 v23 v24 v25 v26 v27 v28 v29 v30 v31 v32 v33 v34, vs = v0 :: v1 :: v2 :: v3 :: v4 :: v5 :: v6 :: v7 :: v8 :: v9 :: v10 :: v11 :: v12 :: v13 :: v14 :: v15 :: v16 :: v17 :: v18 :: v19 :: v20 :: v21 :: v22 :: v23 :: v24 :: v25 :: v26 :: v27 :: v28 :: v29 :: v30 :: v31 :: v32 :: v33 :: v34 :: [] := by
  match vs, h with
  | v0 :: v1 :: v2 :: v3 :: v4 :: v5 :: v6 :: v7 :: v8 :: v9 :: v10 :: v11 :: v12 :: v13 :: v14 :: v15 :: v16 :: v17 :: v18 :: v19 :: v20 :: v21 :: v22 :: v23 :: v24 :: v25 :: v26 :: v27 :: v28 :: v29 :: v30 :: v31 :: v32 :: v33 :: v34 :: [], _ => exact ⟨_, _, _, _, _, _, _, _, _, _, _, _, _, _, _, _, _, _, _, _, _, _, _, _, _, _, _, _, _, _, _, _, _, _, _, rfl⟩
theorem ls36 {vs : List Value} (h : vs.length = 36) : ∃ v0 v1 v2 v3 v4 v5 v6 v7 v8 v9 v10 v11 v12 v13 v14 v15 v16 v17 v18 v19 v20 v21 v22 v23 v24 v25 v26 v27 v28 v29 v30 v31 v32 v33 v34 v35, vs = v0 :: v1 :: v2 :: v3 :: v4 :: v5 :: v6 :: v7 :: v8 :: v9 :: v10 :: v11 :: v12 :: v13 :: v14 :: v15 :: v16 :: v17 :: v18 :: v19 :: v20 :: v21 :: v22 :: v23 :: v24 :: v25 :: v26 :: v27 :: v28 :: v29 :: v30 :: v31 :: v32 :: v33 :: v34 :: v35 :: [] := by
  match vs, h with
  | v0 :: v1 :: v2 :: v3 :: v4 :: v5 :: v6 :: v7 :: v8 :: v9 :: v10 :: v11 :: v12 :: v13 :: v14 :: v15 :: v16 :: v17 :: v18 :: v19 :: v20 :: v21 :: v22 :: v23 :: v24 :: v25 :: v26 :: v27 :: v28 :: v29 :: v30 :: v31 :: v32 :: v33 :: v34 :: v35 :: [], _ => exact ⟨_, _, _, _, _, _, _, _, _, _, _, _, _, _, _, _, _, _, _, _, _, _, _, _, _, _, _, _, _, _, _, _, _, _, _, _, rfl⟩
theorem ls37 {vs : List Value} (h : vs.length = 37) : ∃ v0 v1 v2 v3 v4 v5 v6 v7 v8 v9 v10 v11 v12 v13 v14 v15 v16 v17 v18 v19 v20 v21 v22 v23 v24 v25 v26 v27 v28 v29 v30 v31 v32 v33 v34 v35 v36, vs = v0 :: v1 :: v2 :: v3 :: v4 :: v5 :: v6 :: v7 :: v8 :: v9 :: v10 :: v11 :: v12 :: v13 :: v14 :: v15 :: v16 :: v17 :: v18 :: v19 :: v20 :: v21 :: v22 :: v23 :: v24 :: v25 :: v26 :: v27 :: v28 :: v29 :: v30 :: v31 :: v32 :: v33 :: v34 :: v35 :: v36 :: [] := by
  match vs, h with
  | v0 :: v1 :: v2 :: v3 :: v4 :: v5 :: v6 :: v7 :: v8 :: v9 :: v10 :: v11 :: v12 :: v13 :: v14 :: v15 :: v16 :: v17 :: v18 :: v19 :: v20 :: v21 :: v22 :: v23 :: v24 :: v25 :: v26 :: v27 :: v28 :: v29 :: v30 :: v31 :: v32 :: v33 :: v34 :: v35 :: v36 :: [], _ => exact ⟨_, _, _, _, _, _, _, _, _, _, _, _, _, _, _, _, _, _, _, _, _, _, _, _, _, _, _, _, _, _, _, _, _, _, _, _, _, rfl⟩
theorem ls38 {vs : List Value} (h : vs.length = 38) : ∃ v0 v1 v2 v3 v4 v5 v6 v7 v8 v9 v10 v11 v12 v13 v14 v15 v16 v17 v18 v19 v20 v21 v22 v23 v24 v25 v26 v27 v28 v29 v30 v31 v32 v33 v34 v35 v36 v37, vs = v0 :: v1 :: v2 :: v3 :: v4 :: v5 :: v6 :: v7 :: v8 :: v9 :: v10 :: v11 :: v12 :: v13 :: v14 :: v15 :: v16 :: v17 :: v18 :: v19 :: v20 :: v21 :: v22 :: v23 :: v24 :: v25 :: v26 :: v27 :: v28 :: v29 :: v30 :: v31 :: v32 :: v33 :: v34 :: v35 :: v36 :: v37 :: [] := by
  match vs, h with
  | v0 :: v1 :: v2 :: v3 :: v4 :: v5 :: v6 :: v7 :: v8 :: v9 :: v10 :: v11 :: v12 :: v13 :: v14 :: v15 :: v16 :: v17 :: v18 :: v19 :: v20 :: v21 :: v22 :: v23 :: v24 :: v25 :: v26 :: v27 :: v28 :: v29 :: v30 :: v31 :: v32 :: v33 :: v34 :: v35 :: v36 :: v37 :: [], _ => exact ⟨_, _, _, _, _, _, _, _, _, _, _, _, _, _, _, _, _, _, _, _, _, _, _, _, _, _, _, _, _, _, _, _, _, _, _, _, _, _, rfl⟩
theorem ls39 {vs : List Value} (h : vs.length = 39) : ∃ v0 v1 v2 v3 v4 v5 v6 v7 v8 v9 v10 v11 v12 v13 v14 v15 v16 v17 v18 v19 v20 v21 v22 v23 v24 v25 v26 v27 v28 v29 v30 v31 v32 v33 v34 v35 v36 v37 v38, vs = v0 :: v1 :: v2 :: v3 :: v4 :: v5 :: v6 :: v7 :: v8 :: v9 :: v10 :: v11 :: v12 :: v13 :: v14 :: v15 :: v16 :: v17 :: v18 :: v19 :: v20 :: v21 :: v22 :: v23 :: v24 :: v25 :: v26 :: v27 :: v28 :: v29 :: v30 :: v31 :: v32 :: v33 :: v34 :: v35 :: v36 :: v37 :: v38 :: [] := by
  match vs, h with
  | v0 :: v1 :: v2 :: v3 :: v4 :: v5 :: v6 :: v7 :: v8 :: v9 :: v10 :: v11 :: v12 :: v13 :: v14 :: v15 :: v16 :: v17 :: v18 :: v19 :: v20 :: v21 :: v22 :: v23 :: v24 :: v25 :: v26 :: v27 :: v28 :: v29 :: v30 :: v31 :: v32 :: v33 :: v34 :: v35 :: v36 :: v37 :: v38 :: [], _ => exact ⟨_, _, _, _, _, _, _, _, _, _, _, _, _, _, _, _, _, _, _, _, _, _, _, _, _, _, _, _, _, _, _, _, _, _, _, _, _, _, _, rfl⟩
theorem ls40 {vs : List Value} (h : vs.length = 40) : ∃ v0 v1 v2 v3 v4 v5 v6 v7 v8 v9 v10 v11 v12 v13 v14 v15 v16 v17 v18 v19 v20 v21 v22 v23 v24 v25 v26 v27 v28 v29 v30 v31 v32 v33 v34 v35 v36 v37 v38 v39, vs = v0 :: v1 :: v2 :: v3 :: v4 :: v5 :: v6 :: v7 :: v8 :: v9 :: v10 :: v11 :: v12 :: v13 :: v14 :: v15 :: v16 :: v17 :: v18 :: v19 :: v20 :: v21 :: v22 :: v23 :: v24 :: v25 :: v26 :: v27 :: v28 :: v29 :: v30 :: v31 :: v32 :: v33 :: v34 :: v35 :: v36 :: v37 :: v38 :: v39 :: [] := by
  match vs, h with
  | v0 :: v1 :: v2 :: v3 :: v4 :: v5 :: v6 :: v7 :: v8 :: v9 :: v10 :: v11 :: v12 :: v13 :: v14 :: v15 :: v16 :: v17 :: v18 :: v19 :: v20 :: v21 :: v22 :: v23 :: v24 :: v25 :: v26 :: v27 :: v28 :: v29 :: v30 :: v31 :: v32 :: v33 :: v34 :: v35 :: v36 :: v37 :: v38 :: v39 :: [], _ => exact ⟨_, _, _, _, _, _, _, _, _, _, _, _, _, _, _, _, _, _, _, _, _, _, _, _, _, _, _, _, _, _, _, _, _, _, _, _, _, _, _, _, rfl⟩
theorem ls41 {vs : List Value} (h : vs.length = 41) : ∃ v0 v1 v2 v3 v4 v5 v6 v7 v8 v9 v10 v11 v12 v13 v14 v15 v16 v17 v18 v19 v20 v21 v22 v23 v24 v25 v26 v27 v28 v29 v30 v31 v32 v33 v34 v35 v36 v37 v38 v39 v40, vs = v0 :: v1 :: v2 :: v3 :: v4 :: v5 :: v6 :: v7 :: v8 :: v9 :: v10 :: v11 :: v12 :: v13 :: v14 :: v15 :: v16 :: v17 :: v18 :: v19 :: v20 :: v21 :: v22 :: v23 :: v24 :: v25 :: v26 :: v27 :: v28 :: v29 :: v30 :: v31 :: v32 :: v33 :: v34 :: v35 :: v36 :: v37 :: v38 :: v39 :: v40 :: [] := by
  match vs, h with
  | v0 :: v1 :: v2 :: v3 :: v4 :: v5 :: v6 :: v7 :: v8 :: v9 :: v10 :: v11 :: v12 :: v13 :: v14 :: v15 :: v16 :: v17 :: v18 :: v19 :: v20 :: v21 :: v22 :: v23 :: v24 :: v25 :: v26 :: v27 :: v28 :: v29 :: v30 :: v31 :: v32 :: v33 :: v34 :: v35 :: v36 :: v37 :: v38 :: v39 :: v40 :: [], _ => exact ⟨_, _, _, _, _, _, _, _, _, _, _, _, _, _, _, _, _, _, _, _, _, _, _, _, _, _, _, _, _, _, _, _, _, _, _, _, _, _, _, _, _, rfl⟩
theorem ls42 {vs : List Value} (h : vs.length = 42) : ∃ v0 v1 v2 v3 v4 v5 v6 v7 v8 v9 v10 v11 v12 v13 v14 v15 v16 v17 v18 v19 v20 v21 v22 v23 v24 v25 v26 v27 v28 v29 v30 v31 v32 v33 v34 v35 v36 v37 v38 v39 v40 v41, vs = v0 :: v1 :: v2 :: v3 :: v4 :: v5 :: v6 :: v7 :: v8 :: v9 :: v10 :: v11 :: v12 :: v13 :: v14 :: v15 :: v16 :: v17 :: v18 :: v19 :: v20 :: v21 :: v22 :: v23 :: v24 :: v25 :: v26 :: v27 :: v28 :: v29 :: v30 :: v31 :: v32 :: v33 :: v34 :: v35 :: v36 :: v37 :: v38 :: v39 :: v40 :: v41 :: [] := by
  match vs, h with
  | v0 :: v1 :: v2 :: v3 :: v4 :: v5 :: v6 :: v7 :: v8 :: v9 :: v10 :: v11 :: v12 :: v13 :: v14 :: v15 :: v16 :: v17 :: v18 :: v19 :: v20 :: v21 :: v22 :: v23 :: v24 :: v25 :: v26 :: v27 :: v28 :: v29 :: v30 :: v31 :: v32 :: v33 :: v34 :: v35 :: v36 :: v37 :: v38 :: v39 :: v40 :: v41 :: [], _ => exact ⟨_, _, _, _, _, _, _, _, _, _, _, _, _, _, _, _, _, _, _, _, _, _, _, _, _, _, _, _, _, _, _, _, _, _, _, _, _, _, _, _, _, _, rfl⟩
end Go.Proofs.YtddlohbhchjjhaaGreatDoor
