/-
  ActionRoundTrip: for every input the law returns true and its arguments read as before (the row), tied to the program's text (the card).
-/
import Derived.Test.YtiphbincnnppdaaDoorURT6

namespace Go.Proofs.YtiphbincnnppdaaDoor
open Go.RowKit Go.Maps

theorem smallF_sizes {fs : List Fl} (h : SmallF fs) : fs.length ≤ 30 ∧ ∀ f ∈ fs, f.1.size ≤ maxLen := ⟨h.1, fun f hf => by have := (h.2 f hf).1; unfold maxLen; omega⟩
theorem encO_len {fd : Bool} {msg : ByteArray} {fs : List Fl} (h : chkO fd msg fs = 0) (hs : SmallF fs) : (encO fd msg fs).length ≤ 100000 := by
  obtain ⟨m1, m2, _⟩ := chkO_zero h
  have key : ∀ l : List Fl, (∀ f ∈ l, f.1.size ≤ 200 ∧ f.2.size ≤ 1000) → (encFs l).length ≤ l.length * 1212 := by
    intro l
    induction l with
    | nil => intro _; simp [encFs]
    | cons f r ih =>
      intro hl
      have i1 := ih (fun g hg => hl g (by simp [hg]))
      have h1 := hl f (by simp)
      have a1 : (encT (toL f.1)).length ≤ 206 := by have := encN_len 5 f.1.size (by omega); unfold encT; rw [List.length_append, ← size_toL]; omega
      have a2 : (encT (toL f.2)).length ≤ 1006 := by have := encN_len 5 f.2.size (by omega); unfold encT; rw [List.length_append, ← size_toL]; omega
      unfold encFs at i1 ⊢
      rw [List.flatMap_cons, List.length_append, List.length_append, List.length_cons]
      omega
  have h1 := key fs hs.2
  have a1 := encN_len 5 (if fd = true then 1 else 0) (by split <;> omega)
  have a2 := encN_len 5 msg.size (by omega)
  have a3 := encN_len 5 fs.length (by omega)
  unfold encO encT
  rw [List.length_append, List.length_append, List.length_append, List.length_append, ← size_toL]
  have := hs.1
  omega
def LawEnd (w : World) (e : Ending) (w' : World) : Prop := e = .returned (.bool true) ∧ Below w.heap.size w w'
set_option maxRecDepth 100000 in
set_option maxHeartbeats 4000000 in
theorem lawRT_any (fd : Bool) (msg : ByteArray) (A : Option Addr) (n c B : Nat) (fs : List Fl) (s : ByteArray) (w : World) (h0 : Sl w B 2 A n (flat flC fs)) (hB : B ≤ w.heap.size) :
    Calls Tryd.prog 6 #[.agg #[.bool fd, .string msg, .slice A n c], .string s] w (LawEnd w) := by
  have HL := Lib.hid (h0.len flC_len (by omega))
  obtain ⟨W, hW⟩ : ∃ W, w.alloc (.cells #[.bool fd, .string msg, .slice A n c] 62) = W := ⟨_, rfl⟩
  have HB0 : Hid (Below w.heap.size w W) := by rw [← hW]; exact (Below.refl w.heap.size w).alloc (Nat.le_refl _) _
  have K0 : Hid (Bk W w.heap.size 62 #[.bool fd, .string msg, .slice A n c]) := by rw [← hW]; exact Bk.new w _ _
  have zW : W.heap.size = w.heap.size + 1 := by rw [← hW]; simp
  have u0 := K0.out.cell 0; have u1 := K0.out.cell 1; have u2 := K0.out.cell 2
  simp at u0 u1 u2
  have H0 := Lib.hid h0
  have HGR := Lib.hid (greatO_any fd msg A n c B fs W (h0.below HB0.out hB) (by omega))
  clear h0
  go_enter Tryd.func6, Tryd.ntmps6
  go_wp2_with fail
  refine HGR.out.mono ?_
  rintro e w1 ⟨rfl, hb1⟩
  have z1 := hb1.size
  have HB1 : Hid (Below w.heap.size w w1) := HB0.out.trans (hb1.mono (by omega))
  have K1 := Lib.hid (K0.out.below hb1 (by omega))
  clear u0 u1 u2 hb1 hW HGR K0
  cases hg : (decide (400 < msg.size) || !decide (SmallF fs)) with
  | true =>
    go_wp2_with fail
    refine (awake_any _).mono ?_
    rintro e w2 ⟨rfl, hb2⟩
    have HB2 := Lib.hid (HB1.out.trans (hb2.mono (by omega))); clear hb2
    go_wp2_with fail
    go_ret
    exact ⟨rfl, HB2.out⟩
  | false =>
    simp only [Bool.or_eq_false_iff, decide_eq_false_iff_not, Bool.not_eq_false', decide_eq_true_eq] at hg
    obtain ⟨hm, hsm⟩ := hg
    have HSM := Lib.hid hsm
    clear hsm
    by_cases hls : 2000 < s.size
    · have hlz : (2000 : Int) < (s.size : Int) := by omega
      go_wp2_with fail
      refine (awake_any _).mono ?_
      rintro e w2 ⟨rfl, hb2⟩
      have HB2 := Lib.hid (HB1.out.trans (hb2.mono (by omega))); clear hb2
      go_wp2_with fail
      go_ret
      exact ⟨rfl, HB2.out⟩
    · have hlz : ¬ (2000 : Int) < (s.size : Int) := by omega
      have hn30 : n ≤ 30 := by have := HSM.out.1; rw [HL.out] at this; exact this
      have u0 := K1.out.cell 0; have u1 := K1.out.cell 1; have u2 := K1.out.cell 2
      simp at u0 u1 u2
      have HEN := Lib.hid (encodeOutput_any fd msg A n c B fs w1 (H0.out.below HB1.out hB) (by omega) (by unfold maxLen; omega) (smallF_sizes HSM.out).2)
      go_wp2_with fail
      refine HEN.out.mono ?_
      rintro e w2 ⟨rfl, hb2⟩
      have z2 := hb2.size
      have HB2 : Hid (Below w.heap.size w w2) := HB1.out.trans (hb2.mono (by omega))
      have K2 := Lib.hid (K1.out.below hb2 (by omega))
      clear hb2 HEN u0 u1 u2 K1
      have HEV : Hid (encOR fd msg fs = if chkO fd msg fs = 0 then (encO fd msg fs, 0) else ([], chkO fd msg fs)) := rfl
      by_cases hc : chkO fd msg fs = 0
      · have hev : encOR fd msg fs = (encO fd msg fs, 0) := by rw [HEV.out, if_pos hc]
        rw [hev]
        have HDP : Hid (DecP (toL (ofL (encO fd msg fs))) (fd, msg, fs)) := ⟨hc, by rw [toL_ofL]⟩
        have HD3 := Lib.hid (decodeOutput_any (ofL (encO fd msg fs)) w2 (by rw [size_ofL]; have := encO_len hc HSM.out; omega))
        clear hc hev HEV
        go_wp2_with fail
        refine HD3.out.mono ?_
        rintro e w3 ⟨fd', msg', A', n', c', fs', err, rfl, s3, m3, hb3, hcase⟩
        have HCS : Hid (err = 0 ∧ fd' = fd ∧ msg' = msg ∧ fs' = fs) := by
          rcases hcase with ⟨h1, h2⟩ | ⟨_, _, _, _, h2⟩
          · have := decP_uniq h2 HDP.out
            simp only [Prod.mk.injEq] at this
            exact ⟨h1, this⟩
          · exact absurd HDP.out (h2 _)
        obtain ⟨rfl, rfl, rfl, rfl⟩ := HCS.out
        have z3 := hb3.size
        have HB3 : Hid (Below w.heap.size w (w3.alloc (.cells #[.bool fd', .string msg', .slice A' n' c'] 62))) := (HB2.out.trans (hb3.mono (by omega))).alloc (by omega) _
        have S3 := Lib.hid (s3.boxed (.cells #[.bool fd', .string msg', .slice A' n' c'] 62))
        have K3 := Lib.hid (Bk.new w3 62 #[.bool fd', .string msg', .slice A' n' c'])
        have K23 := Lib.hid ((K2.out.below hb3 (by omega)).alloc (.cells #[.bool fd', .string msg', .slice A' n' c'] 62))
        have M3 := Lib.hid m3
        clear s3 m3 hb3 HD3 hcase K2 HB2 HCS
        obtain ⟨W3, hW3⟩ : ∃ W3, w3.alloc (.cells #[.bool fd', .string msg', .slice A' n' c'] 62) = W3 := ⟨_, rfl⟩
        have zW3 : W3.heap.size = w3.heap.size + 1 := by rw [← hW3]; simp
        rw [hW3] at HB3 S3 K3 K23
        have u0 := K3.out.cell 0; have u1 := K3.out.cell 1; have u2 := K3.out.cell 2
        have v0 := K23.out.cell 0; have v1 := K23.out.cell 1; have v2 := K23.out.cell 2
        simp at u0 u1 u2 v0 v1 v2
        have HSO := Lib.hid (sameO_any fd' fd' msg' msg' A' A n' c' n c W3.heap.size fs' fs' W3 S3.out ((H0.out.below HB3.out hB).more (by omega)) (Nat.le_refl _) M3.out)
        go_wp2_with fail
        refine HSO.out.mono ?_
        rintro e W5 ⟨rfl, hb5⟩
        simp only [and_self, decide_true]
        have z5 := hb5.size
        have HB5 : Hid (Below w.heap.size w W5) := HB3.out.trans (hb5.mono (by omega))
        clear u0 u1 u2 v0 v1 v2 hW3 hb5 HSO K3 K23 S3 HB3
        have HD5 := Lib.hid (decodeOutput_any s W5 (by omega))
        go_wp2_with fail
        refine HD5.out.mono ?_
        rintro e w6 ⟨fd', msg', A', n', c', fs', err, rfl, s6, m6, hb6, hcase⟩
        have z6 := hb6.size
        have HB6 : Hid (Below w.heap.size w (w6.alloc (.cells #[.bool fd', .string msg', .slice A' n' c'] 62))) := (HB5.out.trans (hb6.mono (by omega))).alloc (by omega) _
        have S6 := Lib.hid (s6.boxed (.cells #[.bool fd', .string msg', .slice A' n' c'] 62))
        have K6 := Lib.hid (Bk.new w6 62 #[.bool fd', .string msg', .slice A' n' c'])
        have M6 := Lib.hid m6
        clear s6 m6 hb6 HD5 HB5
        obtain ⟨W6, hW6⟩ : ∃ W6, w6.alloc (.cells #[.bool fd', .string msg', .slice A' n' c'] 62) = W6 := ⟨_, rfl⟩
        have zW6 : W6.heap.size = w6.heap.size + 1 := by rw [← hW6]; simp
        rw [hW6] at HB6 S6 K6
        have u0 := K6.out.cell 0; have u1 := K6.out.cell 1; have u2 := K6.out.cell 2
        simp at u0 u1 u2
        rcases hcase with ⟨rfl, hd⟩ | ⟨rfl, hno⟩
        · obtain ⟨hd1, hd2⟩ := hd
          simp only at hd1 hd2
          have hev : encOR fd' msg' fs' = (toL s, 0) := by unfold encOR; rw [if_pos hd1, hd2]
          have HEV := Lib.hid hev
          have HEN := Lib.hid (encodeOutput_any fd' msg' A' n' c' W6.heap.size fs' W6 S6.out (Nat.le_refl _) M6.out (fun f hf => by have := ((chkO_zero hd1).2.2 f hf).1; unfold maxLen; omega))
          clear hd1 hd2 hev
          go_wp2_with fail
          refine HEN.out.mono ?_
          rintro e w7 ⟨rfl, hb7⟩
          rw [HEV.out]
          have HB7 : Hid (Below w.heap.size w w7) := HB6.out.trans (hb7.mono (by omega))
          have z7 := hb7.size
          have hsd := str_dec (ofL (toL s)) s
          rw [decide_eq_true (ofL_toL s)] at hsd
          clear hb7 u0 u1 u2 hW6
          go_wp2_with fail
          refine (awake_any _).mono ?_
          rintro e w8 ⟨rfl, hb8⟩
          have HB8 := Lib.hid (HB7.out.trans (hb8.mono (by omega))); clear hb8
          go_wp2_with fail
          go_ret
          exact ⟨rfl, HB8.out⟩
        · clear hno
          go_wp2_with fail
          refine (awake_any _).mono ?_
          rintro e w8 ⟨rfl, hb8⟩
          have HB8 := Lib.hid (HB6.out.trans (hb8.mono HB6.out.size)); clear hb8
          go_wp2_with fail
          go_ret
          exact ⟨rfl, HB8.out⟩
      · have hev : encOR fd msg fs = ([], chkO fd msg fs) := by rw [HEV.out, if_neg hc]
        rw [hev]
        have hcb : (chkO fd msg fs == 0) = false := by rw [beq_eq_false_iff_ne]; exact hc
        clear hc hev HEV
        obtain ⟨W5, hW5⟩ : ∃ W5, w2 = W5 := ⟨_, rfl⟩
        subst hW5
        have HB5 := HB2
        have z5 : w2.heap.size = w2.heap.size := rfl
        have HD5 := Lib.hid (decodeOutput_any s w2 (by omega))
        go_wp2_with fail
        refine HD5.out.mono ?_
        rintro e w6 ⟨fd', msg', A', n', c', fs', err, rfl, s6, m6, hb6, hcase⟩
        have z6 := hb6.size
        have HB6 : Hid (Below w.heap.size w (w6.alloc (.cells #[.bool fd', .string msg', .slice A' n' c'] 62))) := (HB5.out.trans (hb6.mono (by omega))).alloc (by omega) _
        have S6 := Lib.hid (s6.boxed (.cells #[.bool fd', .string msg', .slice A' n' c'] 62))
        have K6 := Lib.hid (Bk.new w6 62 #[.bool fd', .string msg', .slice A' n' c'])
        have M6 := Lib.hid m6
        clear s6 m6 hb6 HD5 HB5
        obtain ⟨W6, hW6⟩ : ∃ W6, w6.alloc (.cells #[.bool fd', .string msg', .slice A' n' c'] 62) = W6 := ⟨_, rfl⟩
        have zW6 : W6.heap.size = w6.heap.size + 1 := by rw [← hW6]; simp
        rw [hW6] at HB6 S6 K6
        have u0 := K6.out.cell 0; have u1 := K6.out.cell 1; have u2 := K6.out.cell 2
        simp at u0 u1 u2
        rcases hcase with ⟨rfl, hd⟩ | ⟨rfl, hno⟩
        · obtain ⟨hd1, hd2⟩ := hd
          simp only at hd1 hd2
          have hev : encOR fd' msg' fs' = (toL s, 0) := by unfold encOR; rw [if_pos hd1, hd2]
          have HEV := Lib.hid hev
          have HEN := Lib.hid (encodeOutput_any fd' msg' A' n' c' W6.heap.size fs' W6 S6.out (Nat.le_refl _) M6.out (fun f hf => by have := ((chkO_zero hd1).2.2 f hf).1; unfold maxLen; omega))
          clear hd1 hd2 hev
          go_wp2_with fail
          refine HEN.out.mono ?_
          rintro e w7 ⟨rfl, hb7⟩
          rw [HEV.out]
          have HB7 : Hid (Below w.heap.size w w7) := HB6.out.trans (hb7.mono (by omega))
          have z7 := hb7.size
          have hsd := str_dec (ofL (toL s)) s
          rw [decide_eq_true (ofL_toL s)] at hsd
          clear hb7 u0 u1 u2 hW6
          go_wp2_with fail
          refine (awake_any _).mono ?_
          rintro e w8 ⟨rfl, hb8⟩
          have HB8 := Lib.hid (HB7.out.trans (hb8.mono (by omega))); clear hb8
          go_wp2_with fail
          go_ret
          exact ⟨rfl, HB8.out⟩
        · clear hno
          go_wp2_with fail
          refine (awake_any _).mono ?_
          rintro e w8 ⟨rfl, hb8⟩
          have HB8 := Lib.hid (HB6.out.trans (hb8.mono HB6.out.size)); clear hb8
          go_wp2_with fail
          go_ret
          exact ⟨rfl, HB8.out⟩
end Go.Proofs.YtiphbincnnppdaaDoor

namespace Go.Proofs.YtiphbincnnppdaaDoor.actionRoundTrip
open Go.ChangeShapes Go.WideShapes Go.ChangeAt Go.RowKit

set_option maxRecDepth 100000 in
theorem contract (H : Type) (enc : TypeId × Value → H) (W : World) (base : Nat) (args : Array Value) (ds gs : List (DataW H)) (before : List MemPlace)
    (hval : ∀ (j : Nat) t v, Tryd.f6.params[j]? = some t → args[j]? = some v → Value.okWide Tryd.prog W .any base t v)
    (hW : DataW.Whole enc Tryd.prog Tryd.f6.params.toList Rows.actionRoundTripSpec.vars false W args.toList ds gs before) :
    Calls Tryd.prog 6 args W fun e W' => ∃ v, e = .returned v ∧ Rows.actionRoundTripSpec.post enc Tryd.prog Tryd.f6 false true false false W args v W' := by
  have hW' := hW
  obtain ⟨p, q, hA0, hV, rfl, hfz, hnd⟩ := hW
  have hA : DataW.TrodAll enc Tryd.prog W 0 (fun _ => true) true Tryd.f6.params.toList args.toList ds p := hA0
  rw [Tryd.params6] at hA hval
  obtain ⟨v0, v1, d0, d1, p0, p1, rfl, rfl, rfl, h0, h1⟩ := trodAll_two hA
  obtain ⟨rfl, rfl⟩ := trodVars_none hV
  simp only [List.append_nil] at hW'
  have hlt : ∀ x ∈ p0 ++ p1, x.block < W.heap.size := fun x hx => hW'.lt x (by simpa using hx)
  obtain ⟨fd0, msg0, A0, n0, c0, fs0, rfl, a0, b0, e0, f0, g0⟩ := open_out (hval 0 62 v0 rfl rfl) h0
  obtain ⟨s1, rfl, a1⟩ := open_str (hval 1 9 v1 rfl rfl) h1
  clear hA0 hA hval
  refine (lawRT_any fd0 msg0 A0 n0 c0 W.heap.size fs0 s1 W b0 (Nat.le_refl _)).mono ?_
  rintro e W' ⟨rfl, hb⟩
  refine ⟨_, rfl, post_below (pa := p0 ++ p1) (pv := []) hW' (fun _ _ _ => trodAll_mk1 (shut_bool Tryd.underlying4 _)) (fun sp hsp => ?_) (fun _ _ => rfl) (by simp) hb (ok_one (by kernel_rfl) rfl (okWide_bool_mk Tryd.underlying4 _))⟩
  have hsp' : ∀ x ∈ p0 ++ p1, sp x.block = true := fun x hx => hsp x (by simpa using hx)
  exact trodAll_mk2 (keep (by kernel_rfl) (of_decide_eq_true (by kernel_rfl)) h0 hb (fun x hx => hlt x (by simp [hx])) (fun x hx => hsp' x (by simp [hx]))) (keep (by kernel_rfl) (of_decide_eq_true (by kernel_rfl)) h1 hb (fun x hx => hlt x (by simp [hx])) (fun x hx => hsp' x (by simp [hx])))

theorem reads (os : Os) {H : Type} (enc : TypeId × Value → H) : ∃ places, DataW.whole enc Tryd.prog ((laidWorld os).forCall (fun _ _ => 0) ⟨#[], #[.agg #[.bool false, .string ⟨#[]⟩, .slice none 0 0], .string ⟨#[]⟩], []⟩).memory Tryd.f6.params.toList Rows.actionRoundTripSpec.vars false
    #[Value.agg #[.bool false, .string ⟨#[]⟩, .slice none 0 0], .string ⟨#[]⟩].toList 8 = some ([.agg [.lit (.bool false), .lit (.string []), .nil], .lit (.string [])], [], places) :=
  ⟨[], by kernel_rfl⟩

set_option maxRecDepth 100000 in
theorem lifted (os : Os) (started : os.Started) (H : Type) (enc : TypeId × Value → H) (F : Stop.Interp) :
    ReturnsInHanded {} Tryd.checked os 6 .any ((OpenSpec.ofChange Rows.actionRoundTripSpec).preRow enc Tryd.prog Tryd.f6 Rows.actionRoundTripRow.domain false Rows.actionRoundTripRow.laid) (((OpenSpec.ofChange Rows.actionRoundTripSpec).at F).post enc Tryd.prog Tryd.f6 false true false false) := by
  obtain ⟨places, hx⟩ := reads os enc
  refine returnsInHanded_of_row (C := Tryd.checked) (s := OpenSpec.ofChange Rows.actionRoundTripSpec) own started (by kernel_rfl) Tryd.func6
    (witness_row_at (enc := enc) (C := Tryd.checked) false (laidWorld os) #[.agg #[.bool false, .string ⟨#[]⟩, .slice none 0 0], .string ⟨#[]⟩] rfl (by kernel_rfl) (by kernel_rfl) (by kernel_rfl)
      (OpenSpec.preRow_of_cond 8 hx (by kernel_rfl) (fun k hk => by cases hk) (by kernel_rfl) (laid_met os _))) ?_
  intro W base args ds gs before hval hW _ _ _ _ _ _
  exact contract H enc W base args ds gs before hval hW

theorem said : Rows.ActionRoundTripSaid :=
  OpenClaim.holds_of_cond 6 Tryd.f6 rfl rfl rfl rfl rfl rfl rfl ⟨rfl, rfl, rfl, rfl, rfl⟩ rfl rfl rfl rfl rfl (by kernel_rfl) Tryd.func6 (by kernel_rfl)
    (of_decide_eq_true (by kernel_rfl)) (by unfold Func.isWrapper; first | (rw [if_pos (by decide +kernel)]; kernel_rfl) | (rw [if_neg (by decide +kernel)]; exact ⟨rfl, rfl⟩))
    (fun os started H enc _ F => by rw [OpenClaim.pre_eq_preRow]; exact lifted os started H enc F)

theorem plain (f : FuncId) (fn : Func) (hf : Tryd.pinned.checked.prog.funcNamed "cordwood/cordwoodlaw41.ActionRoundTrip" = some f) (hfn : Tryd.pinned.checked.prog.funcs[f]? = some fn) :
    false = Tryd.pinned.checked.prog.looks [] ∧ ∀ (j : Nat) t, fn.params[j]? = some t → Tryd.pinned.checked.prog.wantsStandIn t = false := by
  obtain rfl : f = 6 := Option.some.inj ((show Tryd.prog.funcNamed "cordwood/cordwoodlaw41.ActionRoundTrip" = some 6 by kernel_rfl).symm.trans hf) |>.symm
  obtain rfl : fn = Tryd.f6 := (Option.some.inj (Tryd.func6.symm.trans hfn)).symm
  refine ⟨by kernel_rfl, fun j t ht => ?_⟩
  rw [Tryd.params6] at ht
  have hm : t ∈ [62, 9] := by simpa using Array.mem_of_getElem? ht
  have hall : ∀ t ∈ [62, 9], Tryd.prog.wantsStandIn t = false := by
    intro t ht
    simp only [List.mem_cons, List.mem_nil_iff, or_false] at ht
    rcases ht with rfl | rfl <;> kernel_rfl
  exact hall t hm

theorem card : Rows.ActionRoundTripCardSaid :=
  Claim7.holds_tied_plain_at .later [] _ _ _ _ said (fun _ h => by cases h) (by kernel_rfl) (fun _ h => by cases h) actionRoundTrip_row_tie rfl ⟨rfl, rfl⟩ (by kernel_rfl) rfl plain (by kernel_rfl)
end Go.Proofs.YtiphbincnnppdaaDoor.actionRoundTrip
