/-
  Lemmas: action.Check: why an action is not valid. digest.Of and cordwoodref02.Of: the digest of a string. action.digestBytes: the 16 bytes of a digest. action.Key: the digest of an action. cordwoodref41.Check and Great. cordwoodref41.Bytes: the 16 bytes of a digest. cordwoodref41.Encode and Key. cordwoodref41.Same: whether two actions are equal; an action as an argument.
-/
import Derived.Laws.BitsLemmas
import Derived.Laws.IdiomStrings
import Derived.IntWalk
import Derived.Test.YtiphbincnnppdaaGreatDoorU8

namespace Go.Proofs.YtiphbincnnppdaaGreatDoor
open Go.RowKit Go.Shelf

abbrev Ipt := ByteArray × Dig
def ipC (i : Ipt) : List Value := [.string i.1, .int .u64 i.2.1, .int .u64 i.2.2]
theorem ipC_len (i : Ipt) : (ipC i).length = 3 := rfl
theorem Sl.ip {w : World} {B n k : Nat} {A : Option Addr} {fs : List Ipt} (h : Sl w B 3 A n (flat ipC fs)) (hk : k < n) :
    ∃ b off f, A = some ⟨b, off, none⟩ ∧ b < B ∧ fs[k]? = some f ∧ w.cell? ⟨b, off + k * 3, none⟩ = some (.string f.1) ∧ w.cell? ⟨b, off + k * 3 + 1, none⟩ = some (.int .u64 f.2.1) ∧ w.cell? ⟨b, off + k * 3 + 2, none⟩ = some (.int .u64 f.2.2) := by
  obtain ⟨b, off, x, e, hb, hx, hc⟩ := h.at_ ipC_len (by omega) hk
  exact ⟨b, off, x, e, hb, hx, hc 0 _ rfl, hc 1 _ rfl, hc 2 _ rfl⟩
noncomputable def chkI : Option ByteArray → List Ipt → Int
  | _, [] => 0
  | p, f :: r => if fnB f.1 = false then 6 else if okP p f.1 = false then 10 else chkI (some f.1) r
noncomputable def chkA (kind : Int) (lab : ByteArray) (fs : List Ipt) : Int :=
  if ¬ (kind = 1 ∨ kind = 2 ∨ kind = 3) then 9 else if labB lab = false then 6 else if 300 < fs.length then 4 else chkI none fs
def prevI (fs : List Ipt) (k : Nat) : Option ByteArray := if k = 0 then none else (fs[k - 1]?).map Prod.fst
theorem chkI_at {fs : List Ipt} {k : Nat} {f : Ipt} (h : fs[k]? = some f) :
    chkI (prevI fs k) (fs.drop k) = if fnB f.1 = false then 6 else if okP (prevI fs k) f.1 = false then 10 else chkI (prevI fs (k + 1)) (fs.drop (k + 1)) := by
  have hk := (List.getElem?_eq_some_iff.1 h).1
  have e : fs.drop k = f :: fs.drop (k + 1) := by
    rw [List.drop_eq_getElem_cons hk]; congr 1; exact (List.getElem?_eq_some_iff.1 h).2
  rw [e, chkI]
  have : prevI fs (k + 1) = some f.1 := by unfold prevI; rw [if_neg (by omega), Nat.add_sub_cancel, h]; rfl
  rw [this]

set_option maxRecDepth 100000 in
set_option maxHeartbeats 4000000 in
theorem check_any (kind : Int) (lab : ByteArray) (A : Option Addr) (n c B : Nat) (fs : List Ipt) (w : World) (h0 : Sl w B 3 A n (flat ipC fs)) (hB : B ≤ w.heap.size) (hn : n ≤ maxLen) (hlab : lab.size ≤ maxLen) (hfs : ∀ f ∈ fs, f.1.size ≤ maxLen) :
    Calls Tryz.prog 16 #[.agg #[.int .i64 kind, .string lab, .slice A n c]] w fun e w' => e = .returned (.int .i64 (chkA kind lab fs)) ∧ Below w.heap.size w w' := by
  have HL := Lib.hid (h0.len ipC_len (by omega))
  have hn' : n ≤ 9223372036854775807 := by unfold maxLen at hn; exact hn
  have H0 := Lib.hid h0; have HFS := Lib.hid hfs
  clear h0 hfs
  have HM : Hid (chkA kind lab fs = if ¬ (kind = 1 ∨ kind = 2 ∨ kind = 3) then 9 else if labB lab = false then 6 else if 300 < fs.length then 4 else chkI none fs) := rfl
  rw [HL.out] at HM
  obtain ⟨W, hW⟩ : ∃ W, w.alloc (.cells #[.int .i64 kind, .string lab, .slice A n c] 31) = W := ⟨_, rfl⟩
  have HB : Hid (Below w.heap.size w W) := by rw [← hW]; exact (Below.refl w.heap.size w).alloc (Nat.le_refl _) _
  have K0 : Hid (Bk W w.heap.size 31 #[.int .i64 kind, .string lab, .slice A n c]) := by rw [← hW]; exact Bk.new w _ _
  have u0 := K0.out.cell 0; have u1 := K0.out.cell 1
  simp at u0 u1
  have zW : W.heap.size = w.heap.size + 1 := by rw [← hW]; simp
  have HLA := Lib.hid (label_any lab W hlab)
  generalize chkA kind lab fs = r at *
  by_cases hkd : kind = 1 ∨ kind = 2 ∨ kind = 3
  · rw [if_neg (not_not_intro hkd)] at HM
    have HT : Hid (∀ (Q : Prop), (kind = 1 → Q) → (kind = 2 → Q) → (kind = 3 → Q) → Q) := fun Q a b c => hkd.elim a (fun h => h.elim b c)
    clear hkd
    go_enter Tryz.func16, Tryz.ntmps16
    refine HT.out _ ?_ ?_ ?_
    all_goals
      intro hkd
      subst hkd
      go_wp2_with fail
      refine HLA.out.mono ?_
      rintro e w1 ⟨rfl, hb1⟩
      have hz1 := hb1.size
      have K1 := Lib.hid (K0.out.below hb1 (by omega))
      have HB1 : Hid (Below w.heap.size w w1) := HB.out.trans (hb1.mono (by omega))
      clear u0 u1 hb1 hW HLA
      have u2 := K1.out.cell 2
      simp at u2
      cases hl : labB lab with
      | false =>
        have HE : Hid (r = 6) := by show _ = _; rw [HM.out, if_pos hl]
        clear hl
        go_wp2_with fail
        go_ret
        exact ⟨ret_int HE.out.symm, HB1.out⟩
      | true =>
        rw [hl, if_neg (by decide)] at HM
        clear hl
        by_cases e2 : 300 < n
        · rw [if_pos e2] at HM
          have e2z : (300 : Int) < (n : Int) := by omega
          clear e2
          go_wp2_with fail
          go_ret
          exact ⟨ret_int HM.out.symm, HB1.out⟩
        · rw [if_neg e2] at HM
          have e2z : ¬ (300 : Int) < (n : Int) := by omega
          clear e2
          go_wp2_with fail
          go_loopw [29] (fun q wr => ∃ k : Nat, k ≤ n ∧ q = .int .i64 k ∧ Hid (r = chkI (prevI fs k) (fs.drop k)) ∧ (∃ kd, Hid (Bk wr w.heap.size 31 #[.int .i64 kd, .string lab, .slice A n c])) ∧ Hid (Below w.heap.size w wr)) (fun q _ => n - (intOf q).toNat)
          case atStart => exact ⟨0, Nat.zero_le _, rfl, HM.out, ⟨_, K1.out⟩, HB1.out⟩
          case round =>
            obtain ⟨k, hk, rfl, hK, ⟨kd, hBk⟩, hBel⟩ := hrel
            by_cases hlt : k < n
            · obtain ⟨b, off, f, rfl, hb, hf, y0, y1, y2⟩ := (H0.out.below hBel.out hB).ip hlt
              have hlz : (k : Int) < (n : Int) := by omega
              have hC := hK.out
              rw [chkI_at hf] at hC
              have HC := Lib.hid hC
              have HF := Lib.hid hf
              clear hC hf
              obtain ⟨W1, hW1⟩ : ∃ W1, wr.alloc (.cells #[.string f.1, .int .u64 f.2.1, .int .u64 f.2.2] 69) = W1 := ⟨_, rfl⟩
              have hwr := hBel.out.size
              have HB1 : Hid (Below w.heap.size w W1) := by rw [← hW1]; exact hBel.out.alloc hwr _
              have kf : Bk W1 wr.heap.size 69 #[.string f.1, .int .u64 f.2.1, .int .u64 f.2.2] := by rw [← hW1]; exact Bk.new wr _ _
              have ko : Bk W1 w.heap.size 31 #[.int .i64 kd, .string lab, .slice (some ⟨b, off, none⟩) n c] := by rw [← hW1]; exact hBk.out.alloc _
              have hz1 : W1.heap.size = wr.heap.size + 1 := by rw [← hW1]; simp
              have hoz := hBk.out.lt
              have x0 := kf.cell 0; simp at x0
              have KF := Lib.hid kf; have KO := Lib.hid ko
              have HFN := Lib.hid (fileName_any f.1 W1 (HFS.out f (List.mem_of_getElem? HF.out)))
              clear kf ko
              go_wp2_with fail
              refine HFN.out.mono ?_
              rintro e w2 ⟨rfl, hb2⟩
              have hz2 := hb2.size
              have KF2 := Lib.hid (KF.out.below hb2 (by omega)); have KO2 := Lib.hid (KO.out.below hb2 (by omega))
              have HB2 : Hid (Below w.heap.size w w2) := HB1.out.trans (hb2.mono (by omega))
              have x0 := KF2.out.cell 0; have x2 := KO2.out.cell 2
              simp at x0 x2
              clear hb2 HFN KF KO
              cases hfn : fnB f.1 with
              | false =>
                have HE : Hid (r = 6) := by show _ = _; rw [HC.out, if_pos hfn]
                clear hfn
                go_wp2_with fail
                go_ret
                exact ⟨ret_int HE.out.symm, HB2.out⟩
              | true =>
                rw [hfn, if_neg (by decide)] at HC
                clear hfn
                cases k with
                | zero =>
                  have HN : Hid (r = chkI (prevI fs 1) (fs.drop 1)) := by
                    show _ = _
                    rw [HC.out, if_neg]
                    simp [prevI, okP]
                  go_wp2_with fail
                  go_quiet (fail)
                  go_wp2_with fail
                  go_roundw
                  case rel => exact ⟨1, by omega, by go_num, HN.out, ⟨_, KO2.out⟩, below_drewN HB2.out _⟩
                  case measure => simp [intOf]; omega
                | succ k =>
                  obtain ⟨b', off', p, hbe, _, hp, p0, _⟩ := (H0.out.below HB2.out hB).ip (show k < n by omega)
                  cases hbe
                  obtain ⟨le, hle⟩ : ∃ le, (Op.bytesLess f.1.toList p.1.toList || f.1.toList == p.1.toList) = le := ⟨_, rfl⟩
                  have hls := le_not_less hle
                  have hpv : prevI fs (k + 1) = some p.1 := by unfold prevI; rw [if_neg (by omega), Nat.add_sub_cancel, hp]; rfl
                  rw [hpv, okP] at HC
                  have hg0 : decide ((0 : Int) < ((k + 1 : Nat) : Int)) = true := by rw [decide_eq_true_iff]; omega
                  clear hp hpv
                  rw [hls] at HC
                  clear hls
                  cases le with
                  | false =>
                    have HN : Hid (r = chkI (prevI fs (k + 1 + 1)) (fs.drop (k + 1 + 1))) := by show _ = _; rw [HC.out, if_neg (by decide)]
                    clear HC
                    go_wp2_with fail
                    go_quiet (fail)
                    go_wp2_with fail
                    go_roundw
                    case rel => exact ⟨k + 1 + 1, by omega, by go_num, HN.out, ⟨_, KO2.out⟩, below_drewN HB2.out _⟩
                    case measure => simp [intOf]; omega
                  | true =>
                    have HE : Hid (r = 10) := by show _ = _; rw [HC.out, if_pos (by decide)]
                    clear HC
                    go_wp2_with fail
                    go_quiet (fail)
                    go_wp2_with fail
                    go_ret
                    exact ⟨ret_int HE.out.symm, below_drewN HB2.out _⟩
            · have hlz : ¬ (k : Int) < (n : Int) := by omega
              have HE : Hid (r = 0) := by
                show _ = _
                rw [hK.out, List.drop_of_length_le (by rw [HL.out]; omega), chkI]
              go_wp2_with fail
              go_ret
              exact ⟨ret_int HE.out.symm, hBel.out⟩
  · have HE : Hid (r = 9) := by show _ = _; rw [HM.out, if_pos hkd]
    have h1 : (kind != 1) = true := by rw [bne_iff_ne]; omega
    have h2 : (kind != 2) = true := by rw [bne_iff_ne]; omega
    have h3 : (kind != 3) = true := by rw [bne_iff_ne]; omega
    clear hkd
    go_enter Tryz.func16, Tryz.ntmps16
    go_wp2_with fail
    go_ret
    exact ⟨ret_int HE.out.symm, HB.out⟩
end Go.Proofs.YtiphbincnnppdaaGreatDoor

namespace Go.Proofs.YtiphbincnnppdaaGreatDoor
open Go.RowKit

@[go_sem] theorem guardDig : Tryz.prog.eqGuardType Tryz.prog.depth 42 = false := by kernel_rfl
theorem eqDig0 (dd : Nat) (a b c d : Int) (w : World) : (Op.equalIn (dd + 2) 42 (.agg #[.int .u64 a, .int .u64 b]) (.agg #[.int .u64 c, .int .u64 d])).run Tryz.prog w = .ok (a == c && b == d) w := by
  have u3 := Tryz.underlying40
  have a3 := Tryz.isAgg40
  have z3 := Tryz.sizeOf40
  rw [Op.equalIn]
  simp only [Sem.run_bind, run_underlying Tryz.underlying42, Result.andThen_ok]
  simp only [Std.Legacy.Range.forIn_eq_forIn_range', Std.Legacy.Range.size, Nat.sub_zero, Nat.add_sub_cancel, Nat.div_one, List.range'_succ, List.range'_zero, List.forIn_cons, List.forIn_nil]
  go_simp
  by_cases h1 : a = c <;> by_cases h2 : b = d <;> simp [h1, h2]
@[go_sem high] theorem eqDig (a b c d : Int) (w : World) : (Op.equalIn 10000 42 (.agg #[.int .u64 a, .int .u64 b]) (.agg #[.int .u64 c, .int .u64 d])).run Tryz.prog w = .ok (a == c && b == d) w := eqDig0 9998 a b c d w

def dg1 (h b : Int) : Int := IntKind.u64.wrap (bits .xor .u64 h b * 1099511628211)
def dg2 (h b : Int) : Int := bits .xor .u64 (IntKind.u64.wrap (h * 1099511628211)) b
def dgF (g : Int → Int → Int) (l : Bytes) : Int := l.foldl (fun h b => g h (IntKind.u64.wrap (b.toNat : Int))) 14695981039346656037
/-- the digest of bytes -/
def ofB (l : Bytes) : Dig := if dgF dg1 l = 0 ∧ dgF dg2 l = 0 then (0, 1) else (dgF dg1 l, dgF dg2 l)
theorem dgF_snoc (g : Int → Int → Int) {l : Bytes} {k : Nat} (hk : k < l.length) : dgF g (l.take (k + 1)) = g (dgF g (l.take k)) (IntKind.u64.wrap (l[k].toNat : Int)) := by
  unfold dgF; rw [take_snoc (List.getElem?_eq_getElem hk), List.foldl_append]; rfl

set_option maxHeartbeats 1000000 in
theorem of1_any (h b : Int) (w : World) : Calls Tryz.prog 44 #[.int .u64 h, .int .u64 b] w fun e w' => e = .returned (.int .u64 (dg1 h b)) ∧ w = w' := by
  go_enter Tryz.func44, Tryz.ntmps44
  go_wp2
  go_ret
  exact ⟨rfl, rfl⟩
set_option maxHeartbeats 1000000 in
theorem of2_any (h b : Int) (w : World) : Calls Tryz.prog 45 #[.int .u64 h, .int .u64 b] w fun e w' => e = .returned (.int .u64 (dg2 h b)) ∧ w = w' := by
  go_enter Tryz.func45, Tryz.ntmps45
  go_wp2
  go_ret
  exact ⟨rfl, rfl⟩
set_option maxRecDepth 100000 in
set_option maxHeartbeats 1000000 in
theorem hash1_any (s : ByteArray) (w : World) (hs : s.size ≤ maxLen) :
    Calls Tryz.prog 43 #[.string s, .func (.func 44) #[] #[]] w fun e w' => e = .returned (.int .u64 (dgF dg1 (toL s))) ∧ w = w' := by
  have hs' : s.size ≤ 9223372036854775807 := by unfold maxLen at hs; exact hs
  go_enter Tryz.func43, Tryz.ntmps43
  go_wp2
  go_loop [5, 9] (fun q5 q9 => ∃ k : Nat, k ≤ s.size ∧ q9 = .int .i64 k ∧ q5 = .int .u64 (dgF dg1 ((toL s).take k))) (fun _ q9 => s.size - (intOf q9).toNat)
  case atStart => exact ⟨0, Nat.zero_le _, rfl, rfl⟩
  case round =>
    obtain ⟨k, hk, rfl, rfl⟩ := hrel
    by_cases hlt : k < s.size
    · have hlz : (k : Int) < (s.size : Int) := by omega
      have hkl : k < (toL s).length := by rw [← size_toL]; exact hlt
      have HN : Hid (dgF dg1 ((toL s).take (k + 1)) = dg1 (dgF dg1 ((toL s).take k)) (IntKind.u64.wrap (s[k].toNat : Int))) := dgF_snoc dg1 hkl
      generalize dgF dg1 ((toL s).take k) = h0 at *
      go_wp2_with fail
      refine (of1_any _ _ _).mono ?_
      rintro e w1 ⟨rfl, rfl⟩
      go_wp2_with fail
      go_round
      case rel => exact ⟨k + 1, by omega, by go_num, by rw [HN.out]; rfl⟩
      case measure => simp [intOf]; omega
    · have hlz : ¬ (k : Int) < (s.size : Int) := by omega
      have HE : Hid ((toL s).take k = toL s) := List.take_of_length_le (by rw [← size_toL]; omega)
      go_wp2_with fail
      go_ret
      exact ⟨by rw [HE.out]; rfl, rfl⟩
set_option maxRecDepth 100000 in
set_option maxHeartbeats 1000000 in
theorem hash2_any (s : ByteArray) (w : World) (hs : s.size ≤ maxLen) :
    Calls Tryz.prog 43 #[.string s, .func (.func 45) #[] #[]] w fun e w' => e = .returned (.int .u64 (dgF dg2 (toL s))) ∧ w = w' := by
  have hs' : s.size ≤ 9223372036854775807 := by unfold maxLen at hs; exact hs
  go_enter Tryz.func43, Tryz.ntmps43
  go_wp2
  go_loop [5, 9] (fun q5 q9 => ∃ k : Nat, k ≤ s.size ∧ q9 = .int .i64 k ∧ q5 = .int .u64 (dgF dg2 ((toL s).take k))) (fun _ q9 => s.size - (intOf q9).toNat)
  case atStart => exact ⟨0, Nat.zero_le _, rfl, rfl⟩
  case round =>
    obtain ⟨k, hk, rfl, rfl⟩ := hrel
    by_cases hlt : k < s.size
    · have hlz : (k : Int) < (s.size : Int) := by omega
      have hkl : k < (toL s).length := by rw [← size_toL]; exact hlt
      have HN : Hid (dgF dg2 ((toL s).take (k + 1)) = dg2 (dgF dg2 ((toL s).take k)) (IntKind.u64.wrap (s[k].toNat : Int))) := dgF_snoc dg2 hkl
      generalize dgF dg2 ((toL s).take k) = h0 at *
      go_wp2_with fail
      refine (of2_any _ _ _).mono ?_
      rintro e w1 ⟨rfl, rfl⟩
      go_wp2_with fail
      go_round
      case rel => exact ⟨k + 1, by omega, by go_num, by rw [HN.out]; rfl⟩
      case measure => simp [intOf]; omega
    · have hlz : ¬ (k : Int) < (s.size : Int) := by omega
      have HE : Hid ((toL s).take k = toL s) := List.take_of_length_le (by rw [← size_toL]; omega)
      go_wp2_with fail
      go_ret
      exact ⟨by rw [HE.out]; rfl, rfl⟩
theorem res_cellD {fn : Func} {c : Tmp} (h : fn.results = #[.cell c 42]) {w : World} {a : Array Value} {b : Nat} {x y : Value} (ha : a[c]?.getD undef = .pointer (some ⟨b, 0, none⟩)) (hk : Bk w b 42 #[x, y]) :
    (results fn a).run Tryz.prog w = .ok (.agg #[x, y]) w := by
  have h0 := hk.cell 0; have h1 := hk.cell 1
  simp at h0 h1
  simp [results, h, ha, go_sem, h0, h1]
def digV (d : Dig) : Value := .agg #[.int .u64 d.1, .int .u64 d.2]
def OfEnd (s : ByteArray) (w : World) (e : Ending) (w' : World) : Prop := e = .returned (digV (ofB (toL s))) ∧ Below w.heap.size w w'
set_option maxRecDepth 100000 in
set_option maxHeartbeats 2000000 in
theorem of_any (s : ByteArray) (w : World) (hs : s.size ≤ maxLen) : Calls Tryz.prog 19 #[.string s] w (OfEnd s w) := by
  have HE : Hid (ofB (toL s) = if dgF dg1 (toL s) = 0 ∧ dgF dg2 (toL s) = 0 then (0, 1) else (dgF dg1 (toL s), dgF dg2 (toL s))) := rfl
  have H1 := Lib.hid (hash1_any s (w.alloc (.cells #[.int .u64 0, .int .u64 0] 42)) hs)
  have H2 := Lib.hid (hash2_any s (w.alloc (.cells #[.int .u64 0, .int .u64 0] 42)) hs)
  have HV : Hid (∀ q, ofB (toL s) = q → ∀ e w', e = Ending.returned (digV q) → Below w.heap.size w w' → OfEnd s w e w') := fun q h e w' h1 h2 => by subst h; exact ⟨h1, h2⟩
  generalize dgF dg1 (toL s) = x at *
  generalize dgF dg2 (toL s) = y at *
  go_enter Tryz.func19, Tryz.ntmps19
  go_wp2_with fail
  refine H1.out.mono ?_
  rintro e w1 ⟨rfl, rfl⟩
  go_wp2_with fail
  refine H2.out.mono ?_
  rintro e w1 ⟨rfl, rfl⟩
  obtain ⟨W, hW⟩ : ∃ W, (w.alloc (.cells #[.int .u64 0, .int .u64 0] 42)).alloc (.cells #[.int .u64 x, .int .u64 y] 42) = W := ⟨_, rfl⟩
  have K0 : Hid (Bk W w.heap.size 42 #[.int .u64 0, .int .u64 0]) := by rw [← hW]; exact (Bk.new w _ _).alloc _
  have K1 : Hid (Bk W (w.heap.size + 1) 42 #[.int .u64 x, .int .u64 y]) := by
    rw [← hW]
    have := Bk.new (w.alloc (.cells #[.int .u64 0, .int .u64 0] 42)) 42 #[.int .u64 x, .int .u64 y]
    rw [World.size_alloc] at this
    exact this
  have HB : Hid (Below w.heap.size w W) := by rw [← hW]; exact ((Below.refl _ w).alloc (Nat.le_refl _) _).alloc (by simp) _
  have u0 := K0.out.cell 0; have u1 := K0.out.cell 1; have v0 := K1.out.cell 0; have v1 := K1.out.cell 1
  simp at u0 u1 v0 v1
  have f0 := K0.out.free 0; have f1 := K0.out.free 1; have g1 := K1.out.free 1
  clear H1 H2
  by_cases hz : x = 0 ∧ y = 0
  · have hb : (x == 0 && y == 0) = true := by simp [hz]
    have HQ : Hid (ofB (toL s) = (x, 1)) := by show _ = _; rw [HE.out, if_pos hz, hz.1]
    clear hz
    have W2 : Hid (Bk (W.setCell ⟨w.heap.size + 1, 1, none⟩ (.int .u64 1)) (w.heap.size + 1) 42 #[.int .u64 x, .int .u64 1]) := by
      have := K1.out.set 1 (.int .u64 1); show Bk _ _ _ _; simpa using this
    have KF : Hid (Bk (W.setCell ⟨w.heap.size + 1, 1, none⟩ (.int .u64 1)) w.heap.size 42 #[.int .u64 0, .int .u64 0]) := K0.out.far (by simp) _
    have a0 := W2.out.cell 0; have a1 := W2.out.cell 1; have b0 := KF.out.cell 0; have b1 := KF.out.cell 1
    simp at a0 a1 b0 b1
    have d0 := KF.out.free 0; have d1 := KF.out.free 1
    clear HE
    go_wp2_with fail
    refine bodyPost_ret (res_cellD Tryz.results19 rfl (KF.out.set2 _ _)) rfl ?_
    exact HV.out _ HQ.out _ _ rfl (below_set2 (HB.out.setCell (p := ⟨w.heap.size + 1, 1, none⟩) (by simp) _) (Nat.le_refl _) _ _)
  · have hb : (x == 0 && y == 0) = false := by
      rw [Bool.eq_false_iff]; intro h; simp at h; exact hz h
    have HQ : Hid (ofB (toL s) = (x, y)) := by show _ = _; rw [HE.out, if_neg hz]
    clear hz HE
    go_wp2_with fail
    refine bodyPost_ret (res_cellD Tryz.results19 rfl (K0.out.set2 _ _)) rfl ?_
    exact HV.out _ HQ.out _ _ rfl (below_set2 HB.out (Nat.le_refl _) _ _)

set_option maxRecDepth 100000 in
set_option maxHeartbeats 2000000 in
theorem rof_any (s : ByteArray) (w : World) (hs : s.size ≤ maxLen) : Calls Tryz.prog 30 #[.string s] w (OfEnd s w) := by
  have hs' : s.size ≤ 9223372036854775807 := by unfold maxLen at hs; exact hs
  have HE : Hid (ofB (toL s) = if dgF dg1 (toL s) = 0 ∧ dgF dg2 (toL s) = 0 then (0, 1) else (dgF dg1 (toL s), dgF dg2 (toL s))) := rfl
  have HV : Hid (∀ q, ofB (toL s) = q → ∀ e w', e = Ending.returned (digV q) → Below w.heap.size w w' → OfEnd s w e w') := fun q h e w' h1 h2 => by subst h; exact ⟨h1, h2⟩
  obtain ⟨W, hW⟩ : ∃ W, w.alloc (.cells #[.int .u64 0, .int .u64 0] 42) = W := ⟨_, rfl⟩
  have K0 : Hid (Bk W w.heap.size 42 #[.int .u64 0, .int .u64 0]) := by rw [← hW]; exact Bk.new w _ _
  have HB : Hid (Below w.heap.size w W) := by rw [← hW]; exact (Below.refl _ w).alloc (Nat.le_refl _) _
  have u0 := K0.out.cell 0; have u1 := K0.out.cell 1
  simp at u0 u1
  have f0 := K0.out.free 0; have f1 := K0.out.free 1
  go_enter Tryz.func30, Tryz.ntmps30
  go_wp2
  go_loop [3, 4, 5] (fun q3 q4 q5 => ∃ k : Nat, k ≤ s.size ∧ q5 = .int .i64 k ∧ q3 = .int .u64 (dgF dg1 ((toL s).take k)) ∧ q4 = .int .u64 (dgF dg2 ((toL s).take k))) (fun _ _ q5 => s.size - (intOf q5).toNat)
  case atStart => exact ⟨0, Nat.zero_le _, rfl, rfl, rfl⟩
  case round =>
    obtain ⟨k, hk, rfl, rfl, rfl⟩ := hrel
    by_cases hlt : k < s.size
    · have hlz : (k : Int) < (s.size : Int) := by omega
      have hkl : k < (toL s).length := by rw [← size_toL]; exact hlt
      have HN1 : Hid (dgF dg1 ((toL s).take (k + 1)) = dg1 (dgF dg1 ((toL s).take k)) (IntKind.u64.wrap (s[k].toNat : Int))) := dgF_snoc dg1 hkl
      have HN2 : Hid (dgF dg2 ((toL s).take (k + 1)) = dg2 (dgF dg2 ((toL s).take k)) (IntKind.u64.wrap (s[k].toNat : Int))) := dgF_snoc dg2 hkl
      generalize dgF dg1 ((toL s).take k) = x at *
      generalize dgF dg2 ((toL s).take k) = y at *
      go_wp2_with fail
      go_round
      case rel => exact ⟨k + 1, by omega, by go_num, by rw [HN1.out]; rfl, by rw [HN2.out]; rfl⟩
      case measure => simp [intOf]; omega
    · have hlz : ¬ (k : Int) < (s.size : Int) := by omega
      have hE : (toL s).take k = toL s := List.take_of_length_le (by rw [← size_toL]; omega)
      rw [hE]
      clear hE
      generalize dgF dg1 (toL s) = x at *
      generalize dgF dg2 (toL s) = y at *
      by_cases hz : x = 0 ∧ y = 0
      · have HQ : Hid (ofB (toL s) = (0, 1)) := by show _ = _; rw [HE.out, if_pos hz]
        obtain ⟨rfl, rfl⟩ := hz
        clear HE
        go_wp2_with fail
        refine bodyPost_ret (res_cellD Tryz.results30 rfl (K0.out.set2 _ _)) rfl ?_
        exact HV.out _ HQ.out _ _ rfl (below_set2 HB.out (Nat.le_refl _) _ _)
      · have HQ : Hid (ofB (toL s) = (x, y)) := by show _ = _; rw [HE.out, if_neg hz]
        clear HE
        by_cases hx : x = 0
        · have hy : (y == 0) = false := by rw [beq_eq_false_iff_ne]; exact fun h => hz ⟨hx, h⟩
          subst hx
          clear hz
          go_wp2_with fail
          refine bodyPost_ret (res_cellD Tryz.results30 rfl (K0.out.set2 _ _)) rfl ?_
          exact HV.out _ HQ.out _ _ rfl (below_set2 HB.out (Nat.le_refl _) _ _)
        · have hxb : (x == 0) = false := by rw [beq_eq_false_iff_ne]; exact hx
          clear hz hx
          go_wp2_with fail
          refine bodyPost_ret (res_cellD Tryz.results30 rfl (K0.out.set2 _ _)) rfl ?_
          exact HV.out _ HQ.out _ _ rfl (below_set2 HB.out (Nat.le_refl _) _ _)
end Go.Proofs.YtiphbincnnppdaaGreatDoor

namespace Go.Proofs.YtiphbincnnppdaaGreatDoor
open Go.RowKit

theorem be_get : ∀ (k n j : Nat), j < k → (be k n)[j]? = some (UInt8.ofNat (n / 256 ^ (k - 1 - j) % 256))
  | 0, _, _, h => by omega
  | k + 1, n, 0, _ => by simp [be]
  | k + 1, n, j + 1, h => by
    simp only [be, List.getElem?_cons_succ]
    rw [be_get k n j (by omega), show k + 1 - 1 - (j + 1) = k - 1 - j by omega]
theorem bc_one (b : UInt8) : ∀ u ∈ Lib.byteCells [b], u.oneCell' = true := by
  intro u hu
  simp [Lib.byteCells] at hu
  subst hu; rfl
theorem bc_get (l : Bytes) (j : Nat) (h : j < l.length) : (Lib.byteCells l)[j]? = some (.int .u8 (l[j].toNat : Int)) := by
  simp [Lib.byteCells, List.getElem?_eq_getElem h]
set_option maxRecDepth 100000 in
set_option maxHeartbeats 4000000 in
theorem digestBytes_any (d : Dig) (hd : WfD d) (w : World) : Calls Tryz.prog 34 #[digV d] w fun e w' => e = .returned (.string (ofL (digB d))) ∧ Below w.heap.size w w' := by
  obtain ⟨x, y⟩ := d
  obtain ⟨hx0, hx1, hy0, hy1⟩ := hd
  simp only at hx0 hx1 hy0 hy1
  obtain ⟨x, rfl⟩ := Int.eq_ofNat_of_zero_le hx0
  obtain ⟨y, rfl⟩ := Int.eq_ofNat_of_zero_le hy0
  have HX1 := Lib.hid hx1; have HY1 := Lib.hid hy1; clear hx0 hx1 hy0 hy1
  show Calls Tryz.prog 34 #[.agg #[.int .u64 x, .int .u64 y]] w _
  obtain ⟨i0, hi, hz0, hz1, hz2⟩ := info_parts infoByte
  have Hi := Lib.hid hi; have Hz0 := Lib.hid hz0; have Hz1 := Lib.hid hz1; have Hz2 := Lib.hid hz2
  clear hi hz0 hz1 hz2
  have HD0 : Hid (Bk (w.alloc (.cells #[.int .u64 x, .int .u64 y] 42)) w.heap.size 42 #[.int .u64 x, .int .u64 y]) := Bk.new w _ _
  have HB0 : Hid (Below w.heap.size w (w.alloc (.cells #[.int .u64 x, .int .u64 y] 42))) := (Below.refl _ _).alloc (Nat.le_refl _) _
  go_enter Tryz.func34, Tryz.ntmps34
  go_wp2
  go_loopw [3, 8] (fun v i wr => ∃ (k : Nat) (A' : Option Addr) (m c' : Nat), k ≤ 2 ∧ i = .int .i64 k ∧ v = .slice A' m c' ∧ Hid (m = 8 * k) ∧ Hid (Apd wr (w.heap.size + 1) 5 1 A' m c' (Lib.byteCells ((digB (x, y)).take (8 * k)))) ∧ Hid (Bk wr w.heap.size 42 #[.int .u64 x, .int .u64 y]) ∧ Hid (Below w.heap.size w wr) ∧ w.heap.size + 1 ≤ wr.heap.size) (fun _ i _ => 2 - (intOf i).toNat)
  case atStart => exact ⟨0, none, 0, 0, by omega, rfl, rfl, rfl, .inr ⟨rfl, rfl, rfl⟩, HD0.out, HB0.out, by simp⟩
  case round =>
    obtain ⟨k, A', m, c', hk, rfl, rfl, hm, hT, hD, hB, hwz⟩ := hrel
    by_cases hlt2 : k < 2
    · have hlz : (k : Int) < 2 := by omega
      obtain ⟨z, hz, hix, hby⟩ : ∃ z : Nat, Hid (z < 18446744073709551616) ∧ (∀ w, (Instr.index 42 (.agg #[.int .u64 (x : Int), .int .u64 (y : Int)]) (.int .i64 (k : Int))).run Tryz.prog w = .ok (.int .u64 (z : Int)) w) ∧ (∀ j, j < 8 → (digB ((x : Int), (y : Int)))[8 * k + j]? = some (UInt8.ofNat (z / 256 ^ (7 - j) % 256))) := by
        rcases Nat.lt_or_ge k 1 with h1 | h1
        · obtain rfl : k = 0 := by omega
          refine ⟨x, by show _ < _; have := HX1.out; omega, fun w => by kernel_rfl, fun j hj => ?_⟩
          unfold digB
          rw [List.getElem?_append_left (by rw [be_len]; omega), Int.toNat_natCast, show 8 * 0 + j = j by omega]
          exact be_get 8 x j hj
        · obtain rfl : k = 1 := by omega
          refine ⟨y, by show _ < _; have := HY1.out; omega, fun w => by kernel_rfl, fun j hj => ?_⟩
          unfold digB
          rw [List.getElem?_append_right (by rw [be_len]; omega), Int.toNat_natCast, be_len, show 8 * 1 + j - 8 = j by omega]
          exact be_get 8 y j hj
      have HBY := Lib.hid hby; clear hby
      go_wp2
      obtain ⟨wo, rfl⟩ : ∃ wo : World, wo = wr := ⟨_, rfl⟩
      go_loopw [3, 6] (fun v i wr => ∃ (j : Nat) (A' : Option Addr) (m c' : Nat), j ≤ 8 ∧ i = .int .i64 (56 - 8 * (j : Int)) ∧ v = .slice A' m c' ∧ Hid (m = 8 * k + j) ∧ Hid (Apd wr (w.heap.size + 1) 5 1 A' m c' (Lib.byteCells ((digB (x, y)).take (8 * k + j)))) ∧ Hid (Bk wr w.heap.size 42 #[.int .u64 x, .int .u64 y]) ∧ Hid (Below w.heap.size w wr) ∧ w.heap.size + 1 ≤ wr.heap.size) (fun _ i _ => (intOf i + 8).toNat)
      case atStart => exact ⟨0, A', m, c', by omega, rfl, rfl, hm, hT, hD, hB, hwz⟩
      case round =>
        obtain ⟨j, A', m, c', hj, rfl, rfl, hm, hT, hD, hB, hwz⟩ := hrel
        by_cases hlt : j < 8
        · have hji : (0 : Int) ≤ 56 - 8 * (j : Int) := by omega
          obtain ⟨p, hp⟩ : ∃ p, z / 256 ^ (7 - j) = p := ⟨_, rfl⟩
          have hsh : ∀ yk, Op.shift .shr .u64 (z : Int) yk (56 - 8 * (j : Int)) = pure (.int .u64 (p : Int)) := fun yk => by
            rw [shift_shr .u64 yk _ _ hji (by show _ ≤ (64 : Int); omega), ← hp]
            rw [show (56 - 8 * (j : Int)).toNat = 8 * (7 - j) by omega]
            have e : ((z : Int) / 2 ^ (8 * (7 - j))) = ((z / 256 ^ (7 - j) : Nat) : Int) := by
              rw [show (256 : Nat) = 2 ^ 8 from rfl, ← Nat.pow_mul]; simp
            rw [e]
          obtain ⟨b, hb⟩ : ∃ b, UInt8.ofNat (p % 256) = b := ⟨_, rfl⟩
          have hw : IntKind.u8.wrap (p : Int) = (b.toNat : Int) := by
            rw [IntKind.wrap_u8, ← hb, toNat_ofNat8 (by omega)]; omega
          have HBJ : Hid ((digB ((x : Int), (y : Int)))[8 * k + j]? = some b) := by
            show _ = _
            rw [HBY.out j hlt, hp, hb]
          have hml : m ≤ 16 := by have := hm.out; omega
          have hdv : (z : Int) / 2 ^ (56 - 8 * (j : Int)).toNat % 256 = (b.toNat : Int) := by
            rw [show (56 - 8 * (j : Int)).toNat = 8 * (7 - j) by omega]
            have e : ((z : Int) / 2 ^ (8 * (7 - j))) = ((z / 256 ^ (7 - j) : Nat) : Int) := by
              rw [show (256 : Nat) = 2 ^ 8 from rfl, ← Nat.pow_mul]; simp
            rw [e, hp, ← hb, toNat_ofNat8 (by omega)]; omega
          clear hp hb
          generalize hq : 56 - 8 * (j : Int) = q at *
          have HQ := Lib.hid hq
          have hq0 : 0 ≤ q := by omega
          have hq2 : q ≤ 56 := by omega
          clear hq
          go_wp2_with (at_builtin; refine halt_ ?_)
          refine unhalt ?_
          refine wpList_append_apd (P := Tryz.prog) _ rfl (.tmp 15) (.tmp 20) 72 rfl 5 i0 _ 1 Tryz.underlying72 Hi.out Hz0.out Hz1.out Hz2.out rfl (by decide) A' m c' (Lib.byteCells ((digB (x, y)).take (8 * k + j))) rfl (hT.out.below ((Below.refl _ _).alloc (Nat.le_refl _) _)) _ (some ⟨wr.heap.size, 0, none⟩) 1 1 (Lib.byteCells [b]) rfl (Sl.of_bk (Bk.new wr _ _) rfl) (bc_one b) (by unfold maxLen; omega) (by omega) (by simp; omega) ?_
          intro A5 c5 w5 a5 hb5 _ _ _
          rw [byteCells_app, ← take_snoc HBJ.out] at a5
          have HA5 := Lib.hid a5
          have HD5 := Lib.hid ((hD.out.alloc (.cells #[.int .u8 b.toNat] 5)).below hb5 (by omega))
          have HB5 : Hid (Below w.heap.size w w5) := (hB.out.alloc (by omega) (.cells #[.int .u8 b.toNat] 5)).trans (hb5.mono (by omega))
          have hz5 : w.heap.size + 1 ≤ w5.heap.size := by have := hb5.size; simp at this; omega
          clear a5 hb5
          go_wp2
          go_roundw
          case rel => exact ⟨j + 1, A5, m + 1, c5, by omega, by rw [← HQ.out]; congr 1; omega, rfl, by show _ = _; have := hm.out; omega, HA5.out, HD5.out, HB5.out, hz5⟩
          case measure => have := HQ.out; simp [intOf]; omega
        · have hji : ¬ (0 : Int) ≤ 56 - 8 * (j : Int) := by omega
          have HJ8 : Hid (j = 8) := by show _ = _; omega
          generalize hq : 56 - 8 * (j : Int) = q at *
          clear hq
          go_wp2
          go_roundw
          case rel => exact ⟨k + 1, A', m, c', by omega, by go_num, rfl, by show _ = _; have := hm.out; have := HJ8.out; omega, by show Apd _ _ _ _ _ _ _ _; have h1 := hT.out; rw [HJ8.out] at h1; exact h1, hD.out, hB.out, hwz⟩
          case measure => simp [intOf]; omega
    · have hlz : ¬ (k : Int) < 2 := by omega
      have HK2 : Hid (k = 2) := by show _ = _; omega
      have hT2 := hT.out
      have hm2 := hm.out
      rw [HK2.out, List.take_of_length_le (by rw [digB_len]; omega)] at hT2
      rw [HK2.out] at hm2
      obtain rfl : m = 16 := hm2
      obtain ⟨b, off, rfl, _, hcc⟩ := (Apd.sl hT2).2 (by omega)
      have hconv := run_convert_bytes_back (P := Tryz.prog) wr 72 9 5 ⟨b, off, none⟩ c' (digB ((x : Int), (y : Int))) Tryz.underlying72 Tryz.underlying5 Tryz.underlying9 (by
        intro j hj
        rw [Addr.add_lit]
        exact hcc j _ (bc_get _ j hj))
      rw [digB_len] at hconv
      clear hT2 hm hcc
      go_wp2
      go_ret
      exact ⟨rfl, hB.out⟩
end Go.Proofs.YtiphbincnnppdaaGreatDoor

namespace Go.Proofs.YtiphbincnnppdaaGreatDoor
open Go.RowKit Go.Shelf

def encIs (l : List Ipt) : Bytes := l.flatMap fun f => encT (toL f.1) ++ encT (digB f.2)
def encA (kn : Nat) (lab : ByteArray) (l : List Ipt) : Bytes := encN kn ++ encT (toL lab) ++ encN l.length ++ encIs l
noncomputable def keyR (kind : Int) (lab : ByteArray) (l : List Ipt) : Dig × Int := if chkA kind lab l = 0 then (ofB (encA kind.toNat lab l), 0) else ((0, 0), chkA kind lab l)
theorem chkI_zero : ∀ {p : Option ByteArray} {fs : List Ipt}, chkI p fs = 0 → ∀ f ∈ fs, fnB f.1 = true
  | _, [], _, _, h => by cases h
  | p, g :: r, h, f, hf => by
    rw [chkI] at h
    by_cases h1 : fnB g.1 = false
    · rw [if_pos h1] at h; cases h
    · rw [if_neg h1] at h
      by_cases h3 : okP p g.1 = false
      · rw [if_pos h3] at h; cases h
      · rw [if_neg h3] at h
        rcases List.mem_cons.1 hf with rfl | hf
        · simpa using h1
        · exact chkI_zero h f hf
theorem chkA_zero {kind : Int} {lab : ByteArray} {fs : List Ipt} (h : chkA kind lab fs = 0) : (kind = 1 ∨ kind = 2 ∨ kind = 3) ∧ lab.size ≤ 90 ∧ fs.length ≤ 300 ∧ ∀ f ∈ fs, f.1.size ≤ 98 := by
  unfold chkA at h
  by_cases h1 : kind = 1 ∨ kind = 2 ∨ kind = 3
  · rw [if_neg (not_not_intro h1)] at h
    by_cases h2 : labB lab = false
    · rw [if_pos h2] at h; cases h
    · rw [if_neg h2] at h
      by_cases h3 : 300 < fs.length
      · rw [if_pos h3] at h; cases h
      · rw [if_neg h3] at h
        refine ⟨h1, ?_, by omega, fun f hf => fnB_len (chkI_zero h f hf)⟩
        have : labB lab = true := by simpa using h2
        have := labL_len this
        rw [size_len]; exact this
  · rw [if_pos h1] at h; cases h
theorem encTd_len (d : Dig) : (encT (digB d)).length ≤ 22 := by
  have := encN_len 5 (digB d).length (by rw [digB_len]; omega)
  unfold encT; rw [List.length_append]; rw [digB_len] at *; omega
theorem encT_len2 {s : ByteArray} {m : Nat} (h : s.size ≤ m) (hm : m ≤ 65536) : (encT (toL s)).length ≤ m + 6 := by
  have := encN_len 5 s.size (by omega)
  unfold encT; rw [List.length_append, ← size_toL]; omega
theorem encIs_len : ∀ {fs : List Ipt}, (∀ f ∈ fs, f.1.size ≤ 98) → (encIs fs).length ≤ fs.length * 126
  | [], _ => by simp [encIs]
  | f :: fs, h => by
    have ih := encIs_len (fs := fs) fun g hg => h g (by simp [hg])
    have a1 := encT_len2 (h f (by simp)) (by omega)
    have a2 := encTd_len f.2
    unfold encIs at ih ⊢
    rw [List.flatMap_cons, List.length_append, List.length_append, List.length_cons]; omega
theorem encIs_snoc {fs : List Ipt} {k : Nat} {f : Ipt} (h : fs[k]? = some f) : encIs (fs.take (k + 1)) = encIs (fs.take k) ++ encT (toL f.1) ++ encT (digB f.2) := by
  rw [take_snoc h]; simp [encIs]
theorem res_cellDe {fn : Func} {c i : Tmp} (h : fn.results = #[.cell c 42, .tmp i]) {w : World} {a : Array Value} {b : Nat} {x y v : Value} (ha : a[c]?.getD undef = .pointer (some ⟨b, 0, none⟩)) (hk : Bk w b 42 #[x, y]) (hv : a[i]?.getD undef = v) :
    (results fn a).run Tryz.prog w = .ok (.tuple #[.agg #[x, y], v]) w := by
  have h0 := hk.cell 0; have h1 := hk.cell 1
  simp at h0 h1
  simp [results, h, ha, hv, go_sem, h0, h1]
def KeyEnd (kind : Int) (lab : ByteArray) (l : List Ipt) (w : World) (e : Ending) (w' : World) : Prop :=
  e = .returned (.tuple #[digV (keyR kind lab l).1, .int .i64 (keyR kind lab l).2]) ∧ Below w.heap.size w w'
set_option maxRecDepth 100000 in
set_option maxHeartbeats 4000000 in
theorem key_any (kind : Int) (lab : ByteArray) (A : Option Addr) (n c B : Nat) (fs : List Ipt) (w : World) (h0 : Sl w B 3 A n (flat ipC fs)) (hB : B ≤ w.heap.size) (hn : n ≤ maxLen) (hlab : lab.size ≤ maxLen) (hfs : ∀ f ∈ fs, f.1.size ≤ maxLen) (hwf : ∀ f ∈ fs, WfD f.2) :
    Calls Tryz.prog 14 #[.agg #[.int .i64 kind, .string lab, .slice A n c]] w (KeyEnd kind lab fs w) := by
  have HL := Lib.hid (h0.len ipC_len (by omega))
  obtain ⟨W, hW⟩ : ∃ W, (w.alloc (.cells #[.int .i64 kind, .string lab, .slice A n c] 31)).alloc (.cells #[.int .u64 0, .int .u64 0] 42) = W := ⟨_, rfl⟩
  have HB : Hid (Below w.heap.size w W) := by rw [← hW]; exact ((Below.refl w.heap.size w).alloc (Nat.le_refl _) _).alloc (by simp) _
  have K0 : Hid (Bk W w.heap.size 31 #[.int .i64 kind, .string lab, .slice A n c]) := by rw [← hW]; exact (Bk.new w _ _).alloc _
  have D0 : Hid (Bk W (w.heap.size + 1) 42 #[.int .u64 0, .int .u64 0]) := by
    rw [← hW]
    have := Bk.new (w.alloc (.cells #[.int .i64 kind, .string lab, .slice A n c] 31)) 42 #[.int .u64 0, .int .u64 0]
    rw [World.size_alloc] at this
    exact this
  have zW : W.heap.size = w.heap.size + 2 := by rw [← hW]; simp
  have H0 := Lib.hid h0; have HWF := Lib.hid hwf
  have HCK := Lib.hid (check_any kind lab A n c B fs W (h0.below HB.out hB) (by omega) hn hlab hfs)
  clear h0 hfs hwf
  have HR : Hid (∀ r, keyR kind lab fs = r → ∀ e w', e = Ending.returned (.tuple #[digV r.1, .int .i64 r.2]) → Below w.heap.size w w' → KeyEnd kind lab fs w e w') := fun r h e w' h1 h2 => by subst h; exact ⟨h1, h2⟩
  have u0 := K0.out.cell 0; have u1 := K0.out.cell 1; have u2 := K0.out.cell 2
  simp at u0 u1 u2
  go_enter Tryz.func14, Tryz.ntmps14
  go_wp2_with fail
  refine HCK.out.mono ?_
  rintro e w1 ⟨rfl, hb1⟩
  have hz1 := hb1.size
  have HB1 : Hid (Below w.heap.size w w1) := HB.out.trans (hb1.mono (by omega))
  have K1 := Lib.hid (K0.out.below hb1 (by omega)); have D1 := Lib.hid (D0.out.below hb1 (by omega))
  clear u0 u1 u2 hb1 hW HCK
  by_cases hc : chkA kind lab fs = 0
  · have HV : Hid (keyR kind lab fs = (ofB (encA kind.toNat lab fs), 0)) := by show _ = _; unfold keyR; rw [if_pos hc]
    obtain ⟨hkd, hl90, hl300, hfl⟩ := chkA_zero hc
    obtain ⟨kn, rfl⟩ : ∃ kn : Nat, kind = (kn : Int) := ⟨kind.toNat, by omega⟩
    have hkn : kn ≤ 3 := by omega
    rw [HL.out] at hl300
    have HFL := Lib.hid hfl
    rw [hc]
    clear hc hfl hkd
    have HEO : Hid (encA ((kn : Int)).toNat lab fs = encN kn ++ encT (toL lab) ++ encN n ++ encIs fs) := by show _ = _; unfold encA; rw [Int.toNat_natCast, HL.out]
    have u0 := (K1.out.alloc (.cells #[.pointer none, .slice none 0 0] 74)).cell 0
    simp at u0
    have hbd := Lib.fresh_isBuilder 74 5 w1
    have HN1 := Lib.hid (number_any w1.heap.size w1.heap.size [] kn _ hbd (by simp) (by omega) (by simp))
    clear hbd
    go_wp2_with fail
    refine HN1.out.mono ?_
    rintro e w2 ⟨rfl, k2, hb2, _⟩
    rw [List.nil_append] at k2
    have hz2 : w1.heap.size + 1 ≤ w2.heap.size := by have := hb2.size; simpa using this
    have hb12 : Below w1.heap.size w1 w2 := ((Below.refl _ w1).alloc (Nat.le_refl _) _).trans hb2
    have K2 := Lib.hid (K1.out.below hb12 (by omega)); have D2 := Lib.hid (D1.out.below hb12 (by omega))
    have HB2 : Hid (Below w.heap.size w w2) := HB1.out.trans (hb12.mono (by omega))
    have HN2 := Lib.hid (text_any w1.heap.size w1.heap.size (encN kn) lab w2 k2 (by omega) (by omega) (by have := encN_len 5 kn (by omega); omega))
    clear u0 k2 hb2 hb12 K1 D1 HB1 HN1
    have u1 := K2.out.cell 1
    simp at u1
    go_wp2_with fail
    refine HN2.out.mono ?_
    rintro e w3 ⟨rfl, k3, hb3, _⟩
    have hz3 := hb3.size
    have K3 := Lib.hid (K2.out.below hb3 (by omega)); have D3 := Lib.hid (D2.out.below hb3 (by omega))
    have HB3 : Hid (Below w.heap.size w w3) := HB2.out.trans (hb3.mono (by omega))
    have hl3 : (encN kn ++ encT (toL lab)).length ≤ 200 := by
      have h1 := encN_len 5 kn (by omega)
      have h2 := encT_len2 hl90 (by omega)
      rw [List.length_append]; omega
    have HN3 := Lib.hid (number_any w1.heap.size w1.heap.size (encN kn ++ encT (toL lab)) n w3 k3 (by omega) (by omega) (by omega))
    clear u1 k3 hb3 K2 D2 HB2 HN2
    have u2 := K3.out.cell 2
    simp at u2
    go_wp2_with fail
    refine HN3.out.mono ?_
    rintro e w4 ⟨rfl, k4, hb4, _⟩
    have hz4 := hb4.size
    have K4 := Lib.hid (K3.out.below hb4 (by omega)); have D4 := Lib.hid (D3.out.below hb4 (by omega))
    have HB4 : Hid (Below w.heap.size w w4) := HB3.out.trans (hb4.mono (by omega))
    have KB4 := Lib.hid k4
    have hl4 : (encN kn ++ encT (toL lab) ++ encN n).length ≤ 300 := by
      have h1 := encN_len 5 n (by omega)
      rw [List.length_append]; omega
    clear u2 k4 hb4 K3 D3 HB3 HN3
    obtain ⟨hd, hhd⟩ : ∃ hd, encN kn ++ encT (toL lab) ++ encN n = hd := ⟨_, rfl⟩
    rw [hhd] at KB4 hl4 HEO
    have u2 := K4.out.cell 2
    simp at u2
    clear hhd
    go_wp2_with fail
    go_loopw [27] (fun q wr => ∃ k : Nat, k ≤ n ∧ q = .int .i64 k ∧ Hid (Lib.IsBuilder 74 5 w1.heap.size w1.heap.size (Lib.byteCells (hd ++ encIs (fs.take k))) wr) ∧ Hid (Bk wr (w.heap.size + 1) 42 #[.int .u64 0, .int .u64 0]) ∧ Hid (Below w.heap.size w wr) ∧ w1.heap.size + 1 ≤ wr.heap.size) (fun q _ => n - (intOf q).toNat)
    case atStart => exact ⟨0, Nat.zero_le _, rfl, by show Lib.IsBuilder _ _ _ _ _ _; simp [encIs]; exact KB4.out, D4.out, HB4.out, by omega⟩
    case round =>
      obtain ⟨k, hk, rfl, hKB, hD, hBel, hwz⟩ := hrel
      have hln : (encIs (fs.take k)).length ≤ 37800 := by
        have h1 := encIs_len (fs := fs.take k) (fun g hg => HFL.out g (List.mem_of_mem_take hg))
        rw [List.length_take] at h1
        have h2 : min k fs.length ≤ 300 := by have := HL.out; omega
        exact Nat.le_trans h1 (Nat.mul_le_mul_right _ h2)
      by_cases hlt : k < n
      · obtain ⟨b, off, f, rfl, hb, hf, y0, y1, y2⟩ := (H0.out.below hBel.out hB).ip hlt
        have hlz : (k : Int) < (n : Int) := by omega
        have hft := HFL.out f (List.mem_of_getElem? hf)
        have HWf := Lib.hid (HWF.out f (List.mem_of_getElem? hf))
        have HSN := Lib.hid (encIs_snoc hf)
        obtain ⟨nm, d0, d1⟩ := f
        simp only at hft y0 y1 y2 HSN HWf
        obtain ⟨W5, hW5⟩ : ∃ W5, wr.alloc (.cells #[.string nm, .int .u64 d0, .int .u64 d1] 69) = W5 := ⟨_, rfl⟩
        have HB5 : Hid (Below w.heap.size w W5) := by rw [← hW5]; exact hBel.out.alloc hBel.out.size _
        have KF : Hid (Bk W5 wr.heap.size 69 #[.string nm, .int .u64 d0, .int .u64 d1]) := by rw [← hW5]; exact Bk.new wr _ _
        have HD5 : Hid (Bk W5 (w.heap.size + 1) 42 #[.int .u64 0, .int .u64 0]) := by rw [← hW5]; exact hD.out.alloc _
        have k5 : Lib.IsBuilder 74 5 w1.heap.size w1.heap.size (Lib.byteCells (hd ++ encIs (fs.take k))) W5 := by rw [← hW5]; exact isBuilder_alloc hKB.out _
        have hz5 : W5.heap.size = wr.heap.size + 1 := by rw [← hW5]; simp
        have HN5 := Lib.hid (text_any w1.heap.size w1.heap.size (hd ++ encIs (fs.take k)) nm W5 k5 (by omega) (by omega) (by rw [List.length_append]; omega))
        have x0 := KF.out.cell 0; simp at x0
        clear k5 hf u2
        go_wp2_with fail
        refine HN5.out.mono ?_
        rintro e w6 ⟨rfl, k6, hb6, hk6⟩
        have hz6 := hb6.size
        have KF6 := Lib.hid (KF.out.kc hk6 (by decide) (by decide))
        have HD6 := Lib.hid (HD5.out.below hb6 (by omega))
        have HB6 : Hid (Below w.heap.size w w6) := HB5.out.trans (hb6.mono (by omega))
        have KB6 := Lib.hid k6
        have hl6 : (encT (toL nm)).length ≤ 104 := encT_len2 hft (by omega)
        have HN6 := Lib.hid (digestBytes_any (d0, d1) HWf.out w6)
        clear x0 k6 hb6 hk6 KF HB5 HN5 HD5 hW5
        have x1 := KF6.out.cell 1; have x2 := KF6.out.cell 2; simp at x1 x2
        go_wp2_with fail
        refine HN6.out.mono ?_
        rintro e w7 ⟨rfl, hb7⟩
        have hz7 := hb7.size
        have HD7 := Lib.hid (HD6.out.below hb7 (by omega))
        have HB7 : Hid (Below w.heap.size w w7) := HB6.out.trans (hb7.mono (by omega))
        have HN7 := Lib.hid (text_any w1.heap.size w1.heap.size (hd ++ encIs (fs.take k) ++ encT (toL nm)) (ofL (digB (d0, d1))) w7 (isBuilder_below KB6.out hb7) (by omega) (by rw [size_ofL, digB_len]; omega) (by rw [List.length_append, List.length_append]; omega))
        rw [toL_ofL] at HN7
        clear hb7 KB6 HN6 x1 x2 HD6 HB6
        go_wp2_with fail
        refine HN7.out.mono ?_
        rintro e w8 ⟨rfl, k8, hb8, _⟩
        have hz8 := hb8.size
        have HD8 := Lib.hid (HD7.out.below hb8 (by omega))
        have HB8 : Hid (Below w.heap.size w w8) := HB7.out.trans (hb8.mono (by omega))
        have KB8 : Hid (Lib.IsBuilder 74 5 w1.heap.size w1.heap.size (Lib.byteCells (hd ++ encIs (fs.take (k + 1)))) w8) := by
          show Lib.IsBuilder _ _ _ _ _ _
          rw [HSN.out, ← List.append_assoc, ← List.append_assoc]; exact k8
        clear k8 hb8
        go_wp2_with fail
        go_roundw
        case rel => exact ⟨k + 1, by omega, by go_num, KB8.out, HD8.out, HB8.out, by omega⟩
        case measure => simp [intOf]; omega
      · have hlz : ¬ (k : Int) < (n : Int) := by omega
        have HST := Lib.hid (Tryz.Builder_String_any w1.heap.size w1.heap.size (hd ++ encIs (fs.take k)) wr hKB.out (by omega))
        rw [List.take_of_length_le (by rw [HL.out]; omega)] at HST hln
        go_wp2_with fail
        refine HST.out.mono ?_
        rintro e w9 ⟨rfl, hb9⟩
        have hz9 := hb9.size
        have HB9 := Lib.hid (hBel.out.trans (hb9.mono (by omega)))
        have HD9 := Lib.hid (hD.out.below hb9 (by omega))
        have HOF := Lib.hid (of_any (ofL (hd ++ encIs fs)) w9 (by rw [size_ofL, List.length_append]; unfold maxLen; omega))
        clear hb9 HST
        go_wp2_with fail
        refine HOF.out.mono ?_
        rintro e w10 ⟨rfl, hb10⟩
        rw [toL_ofL]
        have hz10 := hb10.size
        have HB10 := Lib.hid (HB9.out.trans (hb10.mono (by have := HB9.out.size; omega)))
        have HD10 := Lib.hid (HD9.out.below hb10 (by omega))
        rw [HEO.out] at HV
        generalize ofB (hd ++ encIs fs) = dd at *
        obtain ⟨a0, a1⟩ := dd
        simp only [digV]
        have x0 := HD10.out.cell 0; have x1 := HD10.out.cell 1; simp at x0 x1
        have f0 := HD10.out.free 0; have f1 := HD10.out.free 1
        clear hb10 HOF
        go_wp2_with fail
        refine bodyPost_ret (res_cellDe Tryz.results14 rfl (HD10.out.set2 _ _) rfl) rfl ?_
        exact HR.out _ HV.out _ _ rfl (below_set2 HB10.out (by simp) _ _)
  · have HV : Hid (keyR kind lab fs = ((0, 0), chkA kind lab fs)) := by show _ = _; unfold keyR; rw [if_neg hc]
    have hcb : (chkA kind lab fs != 0) = true := by rw [bne_iff_ne]; exact hc
    have x0 := D1.out.cell 0; have x1 := D1.out.cell 1; simp at x0 x1
    have f0 := D1.out.free 0; have f1 := D1.out.free 1
    clear hc
    go_wp2_with fail
    refine bodyPost_ret (res_cellDe Tryz.results14 rfl (D1.out.set2 _ _) rfl) rfl ?_
    exact HR.out _ HV.out _ _ rfl (below_set2 HB1.out (by simp) _ _)
end Go.Proofs.YtiphbincnnppdaaGreatDoor

namespace Go.Proofs.YtiphbincnnppdaaGreatDoor
open Go.RowKit Go.Shelf

set_option maxRecDepth 100000 in
set_option maxHeartbeats 4000000 in
theorem rcheck_any (kind : Int) (lab : ByteArray) (A : Option Addr) (n c B : Nat) (fs : List Ipt) (w : World) (h0 : Sl w B 3 A n (flat ipC fs)) (hB : B ≤ w.heap.size) (hn : n ≤ maxLen) (hlab : lab.size ≤ maxLen) (hfs : ∀ f ∈ fs, f.1.size ≤ maxLen) :
    Calls Tryz.prog 17 #[.agg #[.int .i64 kind, .string lab, .slice A n c]] w fun e w' => e = .returned (.int .i64 (chkA kind lab fs)) ∧ Below w.heap.size w w' := by
  have HL := Lib.hid (h0.len ipC_len (by omega))
  have hn' : n ≤ 9223372036854775807 := by unfold maxLen at hn; exact hn
  have H0 := Lib.hid h0; have HFS := Lib.hid hfs
  clear h0 hfs
  have HM : Hid (chkA kind lab fs = if ¬ (kind = 1 ∨ kind = 2 ∨ kind = 3) then 9 else if labB lab = false then 6 else if 300 < fs.length then 4 else chkI none fs) := rfl
  rw [HL.out] at HM
  obtain ⟨W, hW⟩ : ∃ W, w.alloc (.cells #[.int .i64 kind, .string lab, .slice A n c] 31) = W := ⟨_, rfl⟩
  have HB : Hid (Below w.heap.size w W) := by rw [← hW]; exact (Below.refl w.heap.size w).alloc (Nat.le_refl _) _
  have K0 : Hid (Bk W w.heap.size 31 #[.int .i64 kind, .string lab, .slice A n c]) := by rw [← hW]; exact Bk.new w _ _
  have u0 := K0.out.cell 0; have u1 := K0.out.cell 1
  simp at u0 u1
  have zW : W.heap.size = w.heap.size + 1 := by rw [← hW]; simp
  have HLA := Lib.hid (rlabel_any lab W hlab)
  generalize chkA kind lab fs = r at *
  by_cases hkd : kind = 1 ∨ kind = 2 ∨ kind = 3
  · rw [if_neg (not_not_intro hkd)] at HM
    have HT : Hid (∀ (Q : Prop), (kind = 1 → Q) → (kind = 2 → Q) → (kind = 3 → Q) → Q) := fun Q a b c => hkd.elim a (fun h => h.elim b c)
    clear hkd
    go_enter Tryz.func17, Tryz.ntmps17
    refine HT.out _ ?_ ?_ ?_
    all_goals
      intro hkd
      subst hkd
      go_wp2_with fail
      refine HLA.out.mono ?_
      rintro e w1 ⟨rfl, rfl⟩
      have K1 := K0
      have HB1 := HB
      clear u0 u1 HLA
      have u2 := K1.out.cell 2
      simp at u2
      cases hl : labB lab with
      | false =>
        have HE : Hid (r = 6) := by show _ = _; rw [HM.out, if_pos hl]
        clear hl
        go_wp2_with fail
        go_ret
        exact ⟨ret_int HE.out.symm, HB1.out⟩
      | true =>
        rw [hl, if_neg (by decide)] at HM
        clear hl
        by_cases e2 : 300 < n
        · rw [if_pos e2] at HM
          have e2z : (300 : Int) < (n : Int) := by omega
          clear e2
          go_wp2_with fail
          go_ret
          exact ⟨ret_int HM.out.symm, HB1.out⟩
        · rw [if_neg e2] at HM
          have e2z : ¬ (300 : Int) < (n : Int) := by omega
          clear e2
          go_wp2_with fail
          go_loopw [3] (fun q wr => ∃ k : Nat, k ≤ n ∧ q = .int .i64 k ∧ Hid (r = chkI (prevI fs k) (fs.drop k)) ∧ (∃ kd, Hid (Bk wr w.heap.size 31 #[.int .i64 kd, .string lab, .slice A n c])) ∧ Hid (Below w.heap.size w wr)) (fun q _ => n - (intOf q).toNat)
          case atStart => exact ⟨0, Nat.zero_le _, rfl, HM.out, ⟨_, K1.out⟩, HB1.out⟩
          case round =>
            obtain ⟨k, hk, rfl, hK, ⟨kd, hBk⟩, hBel⟩ := hrel
            have hwr := hBel.out.size
            have hoz := hBk.out.lt
            have t2 := hBk.out.cell 2; simp at t2
            by_cases hlt : k < n
            · obtain ⟨b, off, f, rfl, hb, hf, y0, y1, y2⟩ := (H0.out.below hBel.out hB).ip hlt
              have hlz : (k : Int) < (n : Int) := by omega
              have hC := hK.out
              rw [chkI_at hf] at hC
              have HC := Lib.hid hC
              have HF := Lib.hid hf
              have HFN := Lib.hid (named_any f.1 wr (HFS.out f (List.mem_of_getElem? HF.out)))
              clear hC hf
              go_wp2_with fail
              refine HFN.out.mono ?_
              rintro e w2 ⟨rfl, hb2⟩
              have hz2 := hb2.size
              have KO2 := Lib.hid (hBk.out.below hb2 (by omega))
              have HB2 : Hid (Below w.heap.size w w2) := hBel.out.trans (hb2.mono (by omega))
              have x2 := KO2.out.cell 2
              simp at x2
              have z0 := (hb2.cell (p := ⟨b, off + k * 3, none⟩) (by show b < _; omega)).trans y0
              have z1 := (hb2.cell (p := ⟨b, off + k * 3 + 1, none⟩) (by show b < _; omega)).trans y1
              clear hb2 HFN
              cases hfn : fnB f.1 with
              | false =>
                have HE : Hid (r = 6) := by show _ = _; rw [HC.out, if_pos hfn]
                clear hfn
                go_wp2_with fail
                go_ret
                exact ⟨ret_int HE.out.symm, HB2.out⟩
              | true =>
                rw [hfn, if_neg (by decide)] at HC
                clear hfn
                cases k with
                | zero =>
                  have HN : Hid (r = chkI (prevI fs 1) (fs.drop 1)) := by
                    show _ = _
                    rw [HC.out, if_neg]
                    simp [prevI, okP]
                  go_wp2_with fail
                  go_quiet (fail)
                  go_wp2_with fail
                  go_roundw
                  case rel => exact ⟨1, by omega, by go_num, HN.out, ⟨_, KO2.out⟩, below_drewN HB2.out _⟩
                  case measure => simp [intOf]; omega
                | succ k =>
                  obtain ⟨b', off', p, hbe, _, hp, p0, _⟩ := (H0.out.below HB2.out hB).ip (show k < n by omega)
                  cases hbe
                  obtain ⟨le, hle⟩ : ∃ le, (!Op.bytesLess p.1.toList f.1.toList) = le := ⟨_, rfl⟩
                  have hls := ge_not_less hle
                  have hpv : prevI fs (k + 1) = some p.1 := by unfold prevI; rw [if_neg (by omega), Nat.add_sub_cancel, hp]; rfl
                  rw [hpv, okP] at HC
                  have hg0 : decide ((0 : Int) < ((k + 1 : Nat) : Int)) = true := by rw [decide_eq_true_iff]; omega
                  clear hp hpv
                  rw [hls] at HC
                  clear hls
                  cases le with
                  | false =>
                    have HN : Hid (r = chkI (prevI fs (k + 1 + 1)) (fs.drop (k + 1 + 1))) := by show _ = _; rw [HC.out, if_neg (by decide)]
                    clear HC
                    go_wp2_with fail
                    go_quiet (fail)
                    go_wp2_with fail
                    go_roundw
                    case rel => exact ⟨k + 1 + 1, by omega, by go_num, HN.out, ⟨_, KO2.out⟩, below_drewN HB2.out _⟩
                    case measure => simp [intOf]; omega
                  | true =>
                    have HE : Hid (r = 10) := by show _ = _; rw [HC.out, if_pos (by decide)]
                    clear HC
                    go_wp2_with fail
                    go_quiet (fail)
                    go_wp2_with fail
                    go_ret
                    exact ⟨ret_int HE.out.symm, below_drewN HB2.out _⟩
            · have hlz : ¬ (k : Int) < (n : Int) := by omega
              have HE : Hid (r = 0) := by
                show _ = _
                rw [hK.out, List.drop_of_length_le (by rw [HL.out]; omega), chkI]
              go_wp2_with fail
              go_ret
              exact ⟨ret_int HE.out.symm, hBel.out⟩
  · have HE : Hid (r = 9) := by show _ = _; rw [HM.out, if_pos hkd]
    go_enter Tryz.func17, Tryz.ntmps17
    by_cases h1 : kind < 1
    · clear hkd
      go_wp2_with fail
      go_ret
      exact ⟨ret_int HE.out.symm, HB.out⟩
    · have h3 : (3 : Int) < kind := by omega
      clear hkd
      go_wp2_with fail
      go_ret
      exact ⟨ret_int HE.out.symm, HB.out⟩

/-- an action within the bounds -/
def SmallA (lab : ByteArray) (l : List Ipt) : Prop := l.length ≤ 20 ∧ lab.size ≤ 200 ∧ ∀ f ∈ l, f.1.size ≤ 200
instance (lab : ByteArray) (l : List Ipt) : Decidable (SmallA lab l) := by unfold SmallA; infer_instance
set_option maxRecDepth 100000 in
set_option maxHeartbeats 1000000 in
theorem greatA_any (kind : Int) (lab : ByteArray) (A : Option Addr) (n c B : Nat) (fs : List Ipt) (w : World) (h0 : Sl w B 3 A n (flat ipC fs)) (hB : B ≤ w.heap.size) :
    Calls Tryz.prog 13 #[.agg #[.int .i64 kind, .string lab, .slice A n c]] w fun e w' => e = .returned (.bool (!decide (SmallA lab fs))) ∧ Below w.heap.size w w' := by
  have HL := Lib.hid (h0.len ipC_len (by omega))
  obtain ⟨W, hW⟩ : ∃ W, w.alloc (.cells #[.int .i64 kind, .string lab, .slice A n c] 31) = W := ⟨_, rfl⟩
  have HB : Hid (Below w.heap.size w W) := by rw [← hW]; exact (Below.refl w.heap.size w).alloc (Nat.le_refl _) _
  have K0 : Hid (Bk W w.heap.size 31 #[.int .i64 kind, .string lab, .slice A n c]) := by rw [← hW]; exact Bk.new w _ _
  have u1 := K0.out.cell 1; have u2 := K0.out.cell 2
  simp at u1 u2
  have H0 := Lib.hid (h0.below HB.out hB); clear h0
  by_cases hn : 20 < n
  · have hnz : (20 : Int) < (n : Int) := by omega
    have HE : Hid (decide (SmallA lab fs) = false) := by
      show _ = _
      rw [decide_eq_false_iff_not]; intro h; have := h.1; rw [HL.out] at this; omega
    generalize decide (SmallA lab fs) = r at *
    go_enter Tryz.func13, Tryz.ntmps13
    go_wp2
    go_ret
    exact ⟨ret_bool (by rw [HE.out]; rfl), HB.out⟩
  · have hnz : ¬ (20 : Int) < (n : Int) := by omega
    by_cases hla : 200 < lab.size
    · have hlaz : (200 : Int) < (lab.size : Int) := by omega
      have HE : Hid (decide (SmallA lab fs) = false) := by
        show _ = _
        rw [decide_eq_false_iff_not]; intro h; have := h.2.1; omega
      generalize decide (SmallA lab fs) = r at *
      go_enter Tryz.func13, Tryz.ntmps13
      go_wp2
      go_ret
      exact ⟨ret_bool (by rw [HE.out]; rfl), HB.out⟩
    · have hlaz : ¬ (200 : Int) < (lab.size : Int) := by omega
      have HM : Hid (decide (SmallA lab fs) = true ↔ ∀ (j : Nat) (f : Ipt), fs[j]? = some f → f.1.size ≤ 200) := by
        show _ ↔ _
        rw [decide_eq_true_iff]
        constructor
        · intro h j f hf; exact h.2.2 f (List.mem_of_getElem? hf)
        · intro h; refine ⟨by rw [HL.out]; omega, by omega, fun f hf => ?_⟩
          obtain ⟨j, hj, e⟩ := List.getElem_of_mem hf
          exact h j f (by rw [← e]; exact List.getElem?_eq_getElem _)
      generalize decide (SmallA lab fs) = r at *
      go_enter Tryz.func13, Tryz.ntmps13
      go_wp2
      go_loop [3] (fun i => ∃ k : Nat, k ≤ n ∧ i = .int .i64 k ∧ Hid (∀ (j : Nat) (f : Ipt), j < k → fs[j]? = some f → f.1.size ≤ 200)) (fun i => n - (intOf i).toNat)
      case atStart => exact ⟨0, Nat.zero_le _, rfl, fun j f h => absurd h (by omega)⟩
      case round =>
        obtain ⟨k, hk, rfl, hF⟩ := hrel
        by_cases hlt : k < n
        · obtain ⟨b, off, f, rfl, hb, hf, y0, y1, y2⟩ := H0.out.ip hlt
          have HF := Lib.hid hf; clear hf
          have hlz : (k : Int) < (n : Int) := by omega
          by_cases h1 : 200 < f.1.size
          · have h1z : (200 : Int) < (f.1.size : Int) := by omega
            have HE : Hid (r = false) := by
              show _ = _
              rw [Bool.eq_false_iff]; intro h; have := HM.out.1 h k f HF.out; omega
            clear h1
            go_wp2
            go_ret
            exact ⟨ret_bool (by rw [HE.out]; rfl), HB.out⟩
          · have h1z : ¬ (200 : Int) < (f.1.size : Int) := by omega
            have HN : Hid (∀ (j : Nat) (g : Ipt), j < k + 1 → fs[j]? = some g → g.1.size ≤ 200) := fun j g hj hg => by
              by_cases e : j = k
              · subst e; rw [HF.out] at hg; cases hg; omega
              · exact hF.out j g (by omega) hg
            clear h1
            go_wp2
            go_round
            case rel => exact ⟨k + 1, by omega, by go_num, HN.out⟩
            case measure => simp [intOf]; omega
        · have hlz : ¬ (k : Int) < (n : Int) := by omega
          have HE : Hid (r = true) := HM.out.2 fun j f hf => hF.out j f (by have := (List.getElem?_eq_some_iff.1 hf).1; rw [HL.out] at this; omega) hf
          go_wp2
          go_ret
          exact ⟨ret_bool (by rw [HE.out]; rfl), HB.out⟩
end Go.Proofs.YtiphbincnnppdaaGreatDoor

namespace Go.Proofs.YtiphbincnnppdaaGreatDoor
open Go.RowKit

set_option maxRecDepth 100000 in
set_option maxHeartbeats 4000000 in
theorem rbytes_any (d : Dig) (hd : WfD d) (w : World) : Calls Tryz.prog 42 #[digV d] w fun e w' => e = .returned (.string (ofL (digB d))) ∧ Below w.heap.size w w' := by
  obtain ⟨x, y⟩ := d
  obtain ⟨hx0, hx1, hy0, hy1⟩ := hd
  simp only at hx0 hx1 hy0 hy1
  obtain ⟨x, rfl⟩ := Int.eq_ofNat_of_zero_le hx0
  obtain ⟨y, rfl⟩ := Int.eq_ofNat_of_zero_le hy0
  have HX1 := Lib.hid hx1; have HY1 := Lib.hid hy1; clear hx0 hx1 hy0 hy1
  show Calls Tryz.prog 42 #[.agg #[.int .u64 x, .int .u64 y]] w _
  obtain ⟨i0, hi, hz0, hz1, hz2⟩ := info_parts infoByte
  have Hi := Lib.hid hi; have Hz0 := Lib.hid hz0; have Hz1 := Lib.hid hz1; have Hz2 := Lib.hid hz2
  clear hi hz0 hz1 hz2
  obtain ⟨W, hW⟩ : ∃ W, (w.alloc (.cells #[.int .u64 x, .int .u64 y] 42)).alloc (.cells #[] 5) = W := ⟨_, rfl⟩
  have HD0 : Hid (Bk W w.heap.size 42 #[.int .u64 x, .int .u64 y]) := by rw [← hW]; exact (Bk.new w _ _).alloc _
  have HB0 : Hid (Below w.heap.size w W) := by rw [← hW]; exact ((Below.refl _ _).alloc (Nat.le_refl _) _).alloc (by simp) _
  have hzW : w.heap.size + 1 ≤ W.heap.size := by rw [← hW]; simp
  go_enter Tryz.func42, Tryz.ntmps42
  go_wp2
  go_loopw [3, 4] (fun v i wr => ∃ (k : Nat) (A' : Option Addr) (m c' : Nat), k ≤ 2 ∧ i = .int .i64 k ∧ v = .slice A' m c' ∧ Hid (m = 8 * k) ∧ Hid (Apd wr (w.heap.size + 1) 5 1 A' m c' (Lib.byteCells ((digB (x, y)).take (8 * k)))) ∧ Hid (Bk wr w.heap.size 42 #[.int .u64 x, .int .u64 y]) ∧ Hid (Below w.heap.size w wr) ∧ w.heap.size + 1 ≤ wr.heap.size) (fun _ i _ => 2 - (intOf i).toNat)
  case atStart => exact ⟨0, some ⟨w.heap.size + 1, 0, none⟩, 0, 0, by omega, rfl, rfl, rfl, .inr ⟨rfl, rfl, rfl⟩, HD0.out, HB0.out, hzW⟩
  case round =>
    obtain ⟨k, A', m, c', hk, rfl, rfl, hm, hT, hD, hB, hwz⟩ := hrel
    by_cases hlt2 : k < 2
    · have hlz : (k : Int) < 2 := by omega
      obtain ⟨z, hz, hix, hby⟩ : ∃ z : Nat, Hid (z < 18446744073709551616) ∧ (∀ w1 : World, Bk w1 w.heap.size 42 #[.int .u64 (x : Int), .int .u64 (y : Int)] → w1.cell? ⟨w.heap.size, k, none⟩ = some (.int .u64 (z : Int))) ∧ (∀ j, j < 8 → (digB ((x : Int), (y : Int)))[8 * k + j]? = some (UInt8.ofNat (z / 256 ^ (7 - j) % 256))) := by
        rcases Nat.lt_or_ge k 1 with h1 | h1
        · obtain rfl : k = 0 := by omega
          refine ⟨x, by show _ < _; have := HX1.out; omega, fun w1 h => by have := h.cell 0; simpa using this, fun j hj => ?_⟩
          unfold digB
          rw [List.getElem?_append_left (by rw [be_len]; omega), Int.toNat_natCast, show 8 * 0 + j = j by omega]
          exact be_get 8 x j hj
        · obtain rfl : k = 1 := by omega
          refine ⟨y, by show _ < _; have := HY1.out; omega, fun w1 h => by have := h.cell 1; simpa using this, fun j hj => ?_⟩
          unfold digB
          rw [List.getElem?_append_right (by rw [be_len]; omega), Int.toNat_natCast, be_len, show 8 * 1 + j - 8 = j by omega]
          exact be_get 8 y j hj
      have HBY := Lib.hid hby; clear hby
      have HIX := Lib.hid hix; clear hix
      go_wp2
      obtain ⟨wo, rfl⟩ : ∃ wo : World, wo = wr := ⟨_, rfl⟩
      go_loopw [3, 5] (fun v i wr => ∃ (j : Nat) (A' : Option Addr) (m c' : Nat), j ≤ 8 ∧ i = .int .i64 (56 - 8 * (j : Int)) ∧ v = .slice A' m c' ∧ Hid (m = 8 * k + j) ∧ Hid (Apd wr (w.heap.size + 1) 5 1 A' m c' (Lib.byteCells ((digB (x, y)).take (8 * k + j)))) ∧ Hid (Bk wr w.heap.size 42 #[.int .u64 x, .int .u64 y]) ∧ Hid (Below w.heap.size w wr) ∧ w.heap.size + 1 ≤ wr.heap.size) (fun _ i _ => (intOf i + 8).toNat)
      case atStart => exact ⟨0, A', m, c', by omega, rfl, rfl, hm, hT, hD, hB, hwz⟩
      case round =>
        obtain ⟨j, A', m, c', hj, rfl, rfl, hm, hT, hD, hB, hwz⟩ := hrel
        by_cases hlt : j < 8
        · have hji : (0 : Int) ≤ 56 - 8 * (j : Int) := by omega
          obtain ⟨p, hp⟩ : ∃ p, z / 256 ^ (7 - j) = p := ⟨_, rfl⟩
          have hsh : ∀ yk, Op.shift .shr .u64 (z : Int) yk (56 - 8 * (j : Int)) = pure (.int .u64 (p : Int)) := fun yk => by
            rw [shift_shr .u64 yk _ _ hji (by show _ ≤ (64 : Int); omega), ← hp]
            rw [show (56 - 8 * (j : Int)).toNat = 8 * (7 - j) by omega]
            have e : ((z : Int) / 2 ^ (8 * (7 - j))) = ((z / 256 ^ (7 - j) : Nat) : Int) := by
              rw [show (256 : Nat) = 2 ^ 8 from rfl, ← Nat.pow_mul]; simp
            rw [e]
          obtain ⟨b, hb⟩ : ∃ b, UInt8.ofNat (p % 256) = b := ⟨_, rfl⟩
          have hw : IntKind.u8.wrap (p : Int) = (b.toNat : Int) := by
            rw [IntKind.wrap_u8, ← hb, toNat_ofNat8 (by omega)]; omega
          have HBJ : Hid ((digB ((x : Int), (y : Int)))[8 * k + j]? = some b) := by
            show _ = _
            rw [HBY.out j hlt, hp, hb]
          have hml : m ≤ 16 := by have := hm.out; omega
          have hdv : (z : Int) / 2 ^ (56 - 8 * (j : Int)).toNat % 256 = (b.toNat : Int) := by
            rw [show (56 - 8 * (j : Int)).toNat = 8 * (7 - j) by omega]
            have e : ((z : Int) / 2 ^ (8 * (7 - j))) = ((z / 256 ^ (7 - j) : Nat) : Int) := by
              rw [show (256 : Nat) = 2 ^ 8 from rfl, ← Nat.pow_mul]; simp
            rw [e, hp, ← hb, toNat_ofNat8 (by omega)]; omega
          clear hp hb
          have hcell := HIX.out wr hD.out
          generalize hq : 56 - 8 * (j : Int) = q at *
          have HQ := Lib.hid hq
          have hq0 : 0 ≤ q := by omega
          have hq2 : q ≤ 56 := by omega
          have hwq : IntKind.u64.wrap q = q := by rw [IntKind.wrap_u64]; omega
          have hwq2 : IntKind.wrap .u64 q = q := hwq
          clear hq
          go_wp2_with (at_builtin; refine halt_ ?_)
          refine unhalt ?_
          refine wpList_append_apd (P := Tryz.prog) _ rfl (.tmp 15) (.tmp 23) 72 rfl 5 i0 _ 1 Tryz.underlying72 Hi.out Hz0.out Hz1.out Hz2.out rfl (by decide) A' m c' (Lib.byteCells ((digB (x, y)).take (8 * k + j))) rfl (hT.out.below ((Below.refl _ _).alloc (Nat.le_refl _) _)) _ (some ⟨wr.heap.size, 0, none⟩) 1 1 (Lib.byteCells [b]) rfl (Sl.of_bk (Bk.new wr _ _) rfl) (bc_one b) (by unfold maxLen; omega) (by omega) (by simp; omega) ?_
          intro A5 c5 w5 a5 hb5 _ _ _
          rw [byteCells_app, ← take_snoc HBJ.out] at a5
          have HA5 := Lib.hid a5
          have HD5 := Lib.hid ((hD.out.alloc (.cells #[.int .u8 b.toNat] 5)).below hb5 (by omega))
          have HB5 : Hid (Below w.heap.size w w5) := (hB.out.alloc (by omega) (.cells #[.int .u8 b.toNat] 5)).trans (hb5.mono (by omega))
          have hz5 : w.heap.size + 1 ≤ w5.heap.size := by have := hb5.size; simp at this; omega
          clear a5 hb5
          go_wp2
          go_roundw
          case rel => exact ⟨j + 1, A5, m + 1, c5, by omega, by rw [← HQ.out]; congr 1; omega, rfl, by show _ = _; have := hm.out; omega, HA5.out, HD5.out, HB5.out, hz5⟩
          case measure => have := HQ.out; simp [intOf]; omega
        · have hji : ¬ (0 : Int) ≤ 56 - 8 * (j : Int) := by omega
          have HJ8 : Hid (j = 8) := by show _ = _; omega
          generalize hq : 56 - 8 * (j : Int) = q at *
          clear hq
          go_wp2
          go_roundw
          case rel => exact ⟨k + 1, A', m, c', by omega, by go_num, rfl, by show _ = _; have := hm.out; have := HJ8.out; omega, by show Apd _ _ _ _ _ _ _ _; have h1 := hT.out; rw [HJ8.out] at h1; exact h1, hD.out, hB.out, hwz⟩
          case measure => simp [intOf]; omega
    · have hlz : ¬ (k : Int) < 2 := by omega
      have HK2 : Hid (k = 2) := by show _ = _; omega
      have hT2 := hT.out
      have hm2 := hm.out
      rw [HK2.out, List.take_of_length_le (by rw [digB_len]; omega)] at hT2
      rw [HK2.out] at hm2
      obtain rfl : m = 16 := hm2
      obtain ⟨b, off, rfl, _, hcc⟩ := (Apd.sl hT2).2 (by omega)
      have hconv := run_convert_bytes_back (P := Tryz.prog) wr 72 9 5 ⟨b, off, none⟩ c' (digB ((x : Int), (y : Int))) Tryz.underlying72 Tryz.underlying5 Tryz.underlying9 (by
        intro j hj
        rw [Addr.add_lit]
        exact hcc j _ (bc_get _ j hj))
      rw [digB_len] at hconv
      clear hT2 hm hcc
      go_wp2
      go_ret
      exact ⟨rfl, hB.out⟩
end Go.Proofs.YtiphbincnnppdaaGreatDoor

namespace Go.Proofs.YtiphbincnnppdaaGreatDoor
open Go.RowKit

set_option maxRecDepth 100000 in
set_option maxHeartbeats 8000000 in
theorem rencA_any (kn : Nat) (lab : ByteArray) (A : Option Addr) (n c B : Nat) (fs : List Ipt) (w : World) (h0 : Sl w B 3 A n (flat ipC fs)) (hB : B ≤ w.heap.size) (hkn : kn ≤ 3) (hlab : lab.size ≤ 90) (hn : n ≤ 300) (hfl : ∀ f ∈ fs, f.1.size ≤ 98) (hwf : ∀ f ∈ fs, WfD f.2) :
    Calls Tryz.prog 18 #[.agg #[.int .i64 kn, .string lab, .slice A n c]] w fun e w' => e = .returned (.string (ofL (encA kn lab fs))) ∧ Below w.heap.size w w' := by
  have HL := Lib.hid (h0.len ipC_len (by omega))
  obtain ⟨W0, hW⟩ : ∃ W, w.alloc (.cells #[.int .i64 kn, .string lab, .slice A n c] 31) = W := ⟨_, rfl⟩
  have HB : Hid (Below w.heap.size w W0) := by rw [← hW]; exact (Below.refl w.heap.size w).alloc (Nat.le_refl _) _
  have K0 : Hid (Bk W0 w.heap.size 31 #[.int .i64 kn, .string lab, .slice A n c]) := by rw [← hW]; exact Bk.new w _ _
  have zW : W0.heap.size = w.heap.size + 1 := by rw [← hW]; simp
  have H0 := Lib.hid h0; have HFL := Lib.hid hfl; have HWF := Lib.hid hwf
  clear h0 hfl hwf
  have u0 := K0.out.cell 0; have u1 := K0.out.cell 1; have u2 := K0.out.cell 2
  simp at u0 u1 u2
  have HEO : Hid (encA kn lab fs = encN kn ++ encT (toL lab) ++ encN n ++ encIs fs) := by show _ = _; unfold encA; rw [HL.out]
  have s0 : (ofL (encN kn)).size ≤ 6 := by rw [size_ofL]; exact encN_len 5 kn (by omega)
  have s1 : (ofL (encT (toL lab))).size ≤ 96 := by rw [size_ofL]; exact encT_len2 hlab (by omega)
  have s2 : (ofL (encN n)).size ≤ 6 := by rw [size_ofL]; exact encN_len 5 n (by omega)
  have s01 : (ofL (encN kn) ++ ofL (encT (toL lab))).size = (ofL (encN kn)).size + (ofL (encT (toL lab))).size := ByteArray.size_append
  have g1 : ¬ 9223372036854775807 < (ofL (encN kn)).size + (ofL (encT (toL lab))).size := by omega
  have g3 : (ofL (encN kn)).size + (ofL (encT (toL lab))).size + (ofL (encN n)).size ≤ 9223372036854775807 := by omega
  have g2 : ¬ 9223372036854775807 < (ofL (encN kn) ++ ofL (encT (toL lab))).size + (ofL (encN n)).size := by omega
  go_enter Tryz.func18, Tryz.ntmps18
  go_wp2_with fail
  refine wp_region_stableGD 12 (5 :: 6 :: 7 :: 8 :: 9 :: 10 :: 11 :: 12 :: 13 :: 14 :: 15 :: 16 :: []) (by kernel_rfl) (by kernel_rfl) (by kernel_rfl) (fun W => Below W0.heap.size W0 W) (fun W W' => Below W.heap.size W W')
    (vPhi ((.pointer (some ⟨w.heap.size, 0, none⟩)) :: (.int .i64 (kn : Int)) :: (.string (ofL (encN kn))) :: (.pointer (some ⟨w.heap.size, 1, none⟩)) :: (.string lab) :: (.string (ofL (encT (toL lab)))) :: (.string (ofL (encN kn) ++ ofL (encT (toL lab)))) :: (.pointer (some ⟨w.heap.size, 2, none⟩)) :: (.slice A n c) :: (.int .i64 (n : Int)) :: (.string (ofL (encN n))) :: (.string (ofL (encN kn) ++ ofL (encT (toL lab)) ++ ofL (encN n))) :: [])) (fun W W' h1 h2 => h1.trans (h2.mono h1.size)) (fun i v W W' h _ => h) (Below.refl _ _).drew ?stepA ?tailA
  case stepA =>
    intro i o vs W hi ho hv hR hphi
    obtain ⟨v0, v1, v2, v3, v4, v5, v6, v7, v8, v9, v10, v11, rfl⟩ := list12 hv
    simp only [List.zip, List.zipWith, putAll, Act.put, List.setIfInBounds_toArray, List.set]
    have hWz := hR.size
    have l0 := (hR.cell (p := ⟨w.heap.size, 0, none⟩) (by show w.heap.size < _; omega)).trans u0
    have l1 := (hR.cell (p := ⟨w.heap.size, 1, none⟩) (by show w.heap.size < _; omega)).trans u1
    have l2 := (hR.cell (p := ⟨w.heap.size, 2, none⟩) (by show w.heap.size < _; omega)).trans u2
    match i, hi, ho with
    | 0, _, rfl =>
      exact .inl ⟨rfl, gives_value (v := .pointer (some ⟨w.heap.size, 0, none⟩)) (w' := W) (by go_simp) ⟨Below.refl _ _, fun u hu => by cases hu; rfl⟩⟩
    | 1, _, rfl =>
      have e0 : v0 = _ := hphi ⟨0, .data⟩ (by simp) rfl v0 rfl _ rfl
      subst e0
      exact .inl ⟨rfl, gives_value (v := .int .i64 (kn : Int)) (w' := W) (by go_simp) ⟨Below.refl _ _, fun u hu => by cases hu; rfl⟩⟩
    | 2, _, rfl =>
      have e1 : v1 = _ := hphi ⟨1, .data⟩ (by simp) rfl v1 rfl _ rfl
      subst e1
      refine .inl ⟨rfl, gives_call (f := 40) (args := #[.int .i64 (kn : Int)]) (by go_simp) ((rnum_any kn W (by omega)).mono ?_)⟩
      rintro e W' ⟨rfl, hb'⟩
      exact ⟨_, rfl, hb', fun u hu => by cases hu; rfl⟩
    | 3, _, rfl =>
      exact .inl ⟨rfl, gives_value (v := .pointer (some ⟨w.heap.size, 1, none⟩)) (w' := W) (by go_simp) ⟨Below.refl _ _, fun u hu => by cases hu; rfl⟩⟩
    | 4, _, rfl =>
      have e3 : v3 = _ := hphi ⟨3, .data⟩ (by simp) rfl v3 rfl _ rfl
      subst e3
      exact .inl ⟨rfl, gives_value (v := .string lab) (w' := W) (by go_simp) ⟨Below.refl _ _, fun u hu => by cases hu; rfl⟩⟩
    | 5, _, rfl =>
      have e4 : v4 = _ := hphi ⟨4, .data⟩ (by simp) rfl v4 rfl _ rfl
      subst e4
      refine .inl ⟨rfl, gives_call (f := 41) (args := #[.string lab]) (by go_simp) ((rtxt_any lab W (by omega)).mono ?_)⟩
      rintro e W' ⟨rfl, hb'⟩
      exact ⟨_, rfl, hb', fun u hu => by cases hu; rfl⟩
    | 6, _, rfl =>
      have e2 : v2 = _ := hphi ⟨2, .data⟩ (by simp) rfl v2 rfl _ rfl
      have e5 : v5 = _ := hphi ⟨5, .data⟩ (by simp) rfl v5 rfl _ rfl
      subst e2 e5
      exact .inl ⟨rfl, gives_value (v := .string (ofL (encN kn) ++ ofL (encT (toL lab)))) (w' := W) (by go_simp) ⟨Below.refl _ _, fun u hu => by cases hu; rfl⟩⟩
    | 7, _, rfl =>
      exact .inl ⟨rfl, gives_value (v := .pointer (some ⟨w.heap.size, 2, none⟩)) (w' := W) (by go_simp) ⟨Below.refl _ _, fun u hu => by cases hu; rfl⟩⟩
    | 8, _, rfl =>
      have e7 : v7 = _ := hphi ⟨7, .data⟩ (by simp) rfl v7 rfl _ rfl
      subst e7
      exact .inl ⟨rfl, gives_value (v := .slice A n c) (w' := W) (by go_simp) ⟨Below.refl _ _, fun u hu => by cases hu; rfl⟩⟩
    | 9, _, rfl =>
      have e8 : v8 = _ := hphi ⟨8, .data⟩ (by simp) rfl v8 rfl _ rfl
      subst e8
      exact .inl ⟨rfl, gives_value (v := .int .i64 (n : Int)) (w' := W) (by go_simp) ⟨Below.refl _ _, fun u hu => by cases hu; rfl⟩⟩
    | 10, _, rfl =>
      have e9 : v9 = _ := hphi ⟨9, .data⟩ (by simp) rfl v9 rfl _ rfl
      subst e9
      refine .inl ⟨rfl, gives_call (f := 40) (args := #[.int .i64 (n : Int)]) (by go_simp) ((rnum_any n W (by omega)).mono ?_)⟩
      rintro e W' ⟨rfl, hb'⟩
      exact ⟨_, rfl, hb', fun u hu => by cases hu; rfl⟩
    | 11, _, rfl =>
      have e6 : v6 = _ := hphi ⟨6, .data⟩ (by simp) rfl v6 rfl _ rfl
      have e10 : v10 = _ := hphi ⟨10, .data⟩ (by simp) rfl v10 rfl _ rfl
      subst e6 e10
      exact .inl ⟨rfl, gives_value (v := .string (ofL (encN kn) ++ ofL (encT (toL lab)) ++ ofL (encN n))) (w' := W) (by go_simp) ⟨Below.refl _ _, fun u hu => by cases hu; rfl⟩⟩
    | i + 12, hi, _ => exact absurd hi (by omega)
  case tailA =>
    intro vs W hv hR hphi
    obtain ⟨v0, v1, v2, v3, v4, v5, v6, v7, v8, v9, v10, v11, rfl⟩ := list12 hv
    simp only [List.zip, List.zipWith, putAll, Act.put, List.setIfInBounds_toArray, List.set, List.drop]
    have e0 : v0 = _ := hphi 0 v0 rfl _ rfl
    have e1 : v1 = _ := hphi 1 v1 rfl _ rfl
    have e2 : v2 = _ := hphi 2 v2 rfl _ rfl
    have e3 : v3 = _ := hphi 3 v3 rfl _ rfl
    have e4 : v4 = _ := hphi 4 v4 rfl _ rfl
    have e5 : v5 = _ := hphi 5 v5 rfl _ rfl
    have e6 : v6 = _ := hphi 6 v6 rfl _ rfl
    have e7 : v7 = _ := hphi 7 v7 rfl _ rfl
    have e8 : v8 = _ := hphi 8 v8 rfl _ rfl
    have e9 : v9 = _ := hphi 9 v9 rfl _ rfl
    have e10 : v10 = _ := hphi 10 v10 rfl _ rfl
    have e11 : v11 = _ := hphi 11 v11 rfl _ rfl
    subst e0 e1 e2 e3 e4 e5 e6 e7 e8 e9 e10 e11
    have HB4 : Hid (Below w.heap.size w W) := HB.out.trans (hR.mono (by omega))
    have K4 := Lib.hid (K0.out.below hR (by omega))
    obtain ⟨hd, hhd⟩ : ∃ hd, encN kn ++ encT (toL lab) ++ encN n = hd := ⟨_, rfl⟩
    have e12 : ofL (encN kn) ++ ofL (encT (toL lab)) ++ ofL (encN n) = ofL hd := by rw [ofL_append, ofL_append, hhd]
    rw [e12]
    have hld : hd.length ≤ 200 := by
      rw [← hhd, List.length_append, List.length_append]
      rw [size_ofL] at s0 s1 s2; omega
    rw [hhd] at HEO
    clear e12 hhd g1 g2 g3 s01 s0 s1 s2 u0 u1 u2 HB hR hW
    go_wp2_with fail
    go_loopw [3, 4] (fun q5 q6 wr => ∃ k : Nat, k ≤ n ∧ q6 = .int .i64 k ∧ q5 = .string (ofL (hd ++ encIs (fs.take k))) ∧ Hid (Bk wr w.heap.size 31 #[.int .i64 kn, .string lab, .slice A n c]) ∧ Hid (Below w.heap.size w wr)) (fun _ q6 _ => n - (intOf q6).toNat)
    case atStart => exact ⟨0, Nat.zero_le _, rfl, by simp [encIs], K4.out, HB4.out⟩
    case round =>
      obtain ⟨k, hk, rfl, rfl, hBk, hBel⟩ := hrel
      have hwr := hBel.out.size
      have hoz := hBk.out.lt
      have t2 := hBk.out.cell 2; simp at t2
      by_cases hlt : k < n
      · obtain ⟨b, off, f, rfl, hb, hf, y0, y1, y2⟩ := (H0.out.below hBel.out hB).ip hlt
        have hlz : (k : Int) < (n : Int) := by omega
        have hft := HFL.out f (List.mem_of_getElem? hf)
        have HWf := Lib.hid (HWF.out f (List.mem_of_getElem? hf))
        have HSN := Lib.hid (encIs_snoc hf)
        have hln : (encIs (fs.take k)).length ≤ 37800 := by
          have h1 := encIs_len (fs := fs.take k) (fun g hg => HFL.out g (List.mem_of_mem_take hg))
          rw [List.length_take] at h1
          have h2 : min k fs.length ≤ 300 := by have := HL.out; omega
          exact Nat.le_trans h1 (Nat.mul_le_mul_right _ h2)
        obtain ⟨nm, d0, d1⟩ := f
        simp only at hft y0 y1 y2 HSN HWf
        obtain ⟨cur, hcur⟩ : ∃ cur, hd ++ encIs (fs.take k) = cur := ⟨_, rfl⟩
        have s0 : (ofL cur).size ≤ 1400000 := by rw [size_ofL, ← hcur, List.length_append]; omega
        have s1 : (ofL (encT (toL nm))).size ≤ 104 := by rw [size_ofL]; exact encT_len2 hft (by omega)
        have s2 : (ofL (encT (digB (d0, d1)))).size ≤ 22 := by rw [size_ofL]; exact encTd_len _
        have s01 : (ofL cur ++ ofL (encT (toL nm))).size = (ofL cur).size + (ofL (encT (toL nm))).size := ByteArray.size_append
        have g1 : ¬ 9223372036854775807 < (ofL cur).size + (ofL (encT (toL nm))).size := by omega
        have g3 : (ofL cur).size + (ofL (encT (toL nm))).size + (ofL (encT (digB (d0, d1)))).size ≤ 9223372036854775807 := by omega
        have g2 : ¬ 9223372036854775807 < (ofL cur ++ ofL (encT (toL nm))).size + (ofL (encT (digB (d0, d1)))).size := by omega
        have HN : Hid (ofL cur ++ ofL (encT (toL nm)) ++ ofL (encT (digB (d0, d1))) = ofL (hd ++ encIs (fs.take (k + 1)))) := by
          show _ = _
          rw [ofL_append, ofL_append, HSN.out, ← hcur, List.append_assoc, List.append_assoc, List.append_assoc]
        rw [hcur]
        clear hcur HSN hf
        go_wp2_with fail
        refine wp_region_stableGD 18 (24 :: 25 :: 26 :: 27 :: 28 :: 29 :: 30 :: 31 :: 32 :: 33 :: 34 :: 35 :: 36 :: 37 :: 38 :: 39 :: 40 :: 41 :: []) (by kernel_rfl) (by kernel_rfl) (by kernel_rfl) (fun W => Below wr.heap.size wr W) (fun W W' => Below W.heap.size W W')
          (vPhi ((.string (ofL cur)) :: (.pointer (some ⟨w.heap.size, 2, none⟩)) :: (.slice (some ⟨b, off, none⟩) n c) :: (.int .i64 (k : Int)) :: (.pointer (some ⟨b, off + k * 3, none⟩)) :: (.pointer (some ⟨b, off + k * 3, none⟩)) :: (.string nm) :: (.string (ofL (encT (toL nm)))) :: (.string (ofL cur ++ ofL (encT (toL nm)))) :: (.pointer (some ⟨w.heap.size, 2, none⟩)) :: (.slice (some ⟨b, off, none⟩) n c) :: (.int .i64 (k : Int)) :: (.pointer (some ⟨b, off + k * 3, none⟩)) :: (.pointer (some ⟨b, off + k * 3 + 1, none⟩)) :: (.agg #[.int .u64 d0, .int .u64 d1]) :: (.string (ofL (digB (d0, d1)))) :: (.string (ofL (encT (digB (d0, d1))))) :: (.string (ofL cur ++ ofL (encT (toL nm)) ++ ofL (encT (digB (d0, d1))))) :: [])) (fun W W' h1 h2 => h1.trans (h2.mono h1.size)) (fun i v W W' h _ => h) (Below.refl _ _).drew ?stepB ?tailB
        case stepB =>
          intro i o vs W hi ho hv hR hphi
          obtain ⟨v0, v1, v2, v3, v4, v5, v6, v7, v8, v9, v10, v11, v12, v13, v14, v15, v16, v17, rfl⟩ := list18 hv
          simp only [List.zip, List.zipWith, putAll, Act.put, List.setIfInBounds_toArray, List.set]
          have hWz := hR.size
          have l2 := (hR.cell (p := ⟨w.heap.size, 2, none⟩) (by show w.heap.size < _; omega)).trans t2
          have m0 := (hR.cell (p := ⟨b, off + k * 3, none⟩) (by show b < _; omega)).trans y0
          have m1 := (hR.cell (p := ⟨b, off + k * 3 + 1, none⟩) (by show b < _; omega)).trans y1
          have m2 := (hR.cell (p := ⟨b, off + k * 3 + 2, none⟩) (by show b < _; omega)).trans y2
          match i, hi, ho with
          | 0, _, rfl =>
            exact .inl ⟨rfl, gives_value (v := .string (ofL cur)) (w' := W) (by go_simp) ⟨Below.refl _ _, fun u hu => by cases hu; rfl⟩⟩
          | 1, _, rfl =>
            exact .inl ⟨rfl, gives_value (v := .pointer (some ⟨w.heap.size, 2, none⟩)) (w' := W) (by go_simp) ⟨Below.refl _ _, fun u hu => by cases hu; rfl⟩⟩
          | 2, _, rfl =>
            have e1 : v1 = _ := hphi ⟨1, .data⟩ (by simp) rfl v1 rfl _ rfl
            subst e1
            exact .inl ⟨rfl, gives_value (v := .slice (some ⟨b, off, none⟩) n c) (w' := W) (by go_simp) ⟨Below.refl _ _, fun u hu => by cases hu; rfl⟩⟩
          | 3, _, rfl =>
            exact .inl ⟨rfl, gives_value (v := .int .i64 (k : Int)) (w' := W) (by go_simp) ⟨Below.refl _ _, fun u hu => by cases hu; rfl⟩⟩
          | 4, _, rfl =>
            have e2 : v2 = _ := hphi ⟨2, .data⟩ (by simp) rfl v2 rfl _ rfl
            have e3 : v3 = _ := hphi ⟨3, .data⟩ (by simp) rfl v3 rfl _ rfl
            subst e2 e3
            exact .inl ⟨rfl, gives_value (v := .pointer (some ⟨b, off + k * 3, none⟩)) (w' := W) (by go_simp) ⟨Below.refl _ _, fun u hu => by cases hu; rfl⟩⟩
          | 5, _, rfl =>
            have e4 : v4 = _ := hphi ⟨4, .data⟩ (by simp) rfl v4 rfl _ rfl
            subst e4
            exact .inl ⟨rfl, gives_value (v := .pointer (some ⟨b, off + k * 3, none⟩)) (w' := W) (by go_simp) ⟨Below.refl _ _, fun u hu => by cases hu; rfl⟩⟩
          | 6, _, rfl =>
            have e5 : v5 = _ := hphi ⟨5, .data⟩ (by simp) rfl v5 rfl _ rfl
            subst e5
            exact .inl ⟨rfl, gives_value (v := .string nm) (w' := W) (by go_simp) ⟨Below.refl _ _, fun u hu => by cases hu; rfl⟩⟩
          | 7, _, rfl =>
            have e6 : v6 = _ := hphi ⟨6, .data⟩ (by simp) rfl v6 rfl _ rfl
            subst e6
            refine .inl ⟨rfl, gives_call (f := 41) (args := #[.string nm]) (by go_simp) ((rtxt_any nm W (by omega)).mono ?_)⟩
            rintro e W' ⟨rfl, hb'⟩
            exact ⟨_, rfl, hb', fun u hu => by cases hu; rfl⟩
          | 8, _, rfl =>
            have e0 : v0 = _ := hphi ⟨0, .data⟩ (by simp) rfl v0 rfl _ rfl
            have e7 : v7 = _ := hphi ⟨7, .data⟩ (by simp) rfl v7 rfl _ rfl
            subst e0 e7
            exact .inl ⟨rfl, gives_value (v := .string (ofL cur ++ ofL (encT (toL nm)))) (w' := W) (by go_simp) ⟨Below.refl _ _, fun u hu => by cases hu; rfl⟩⟩
          | 9, _, rfl =>
            exact .inl ⟨rfl, gives_value (v := .pointer (some ⟨w.heap.size, 2, none⟩)) (w' := W) (by go_simp) ⟨Below.refl _ _, fun u hu => by cases hu; rfl⟩⟩
          | 10, _, rfl =>
            have e9 : v9 = _ := hphi ⟨9, .data⟩ (by simp) rfl v9 rfl _ rfl
            subst e9
            exact .inl ⟨rfl, gives_value (v := .slice (some ⟨b, off, none⟩) n c) (w' := W) (by go_simp) ⟨Below.refl _ _, fun u hu => by cases hu; rfl⟩⟩
          | 11, _, rfl =>
            exact .inl ⟨rfl, gives_value (v := .int .i64 (k : Int)) (w' := W) (by go_simp) ⟨Below.refl _ _, fun u hu => by cases hu; rfl⟩⟩
          | 12, _, rfl =>
            have e10 : v10 = _ := hphi ⟨10, .data⟩ (by simp) rfl v10 rfl _ rfl
            have e11 : v11 = _ := hphi ⟨11, .data⟩ (by simp) rfl v11 rfl _ rfl
            subst e10 e11
            exact .inl ⟨rfl, gives_value (v := .pointer (some ⟨b, off + k * 3, none⟩)) (w' := W) (by go_simp) ⟨Below.refl _ _, fun u hu => by cases hu; rfl⟩⟩
          | 13, _, rfl =>
            have e12 : v12 = _ := hphi ⟨12, .data⟩ (by simp) rfl v12 rfl _ rfl
            subst e12
            exact .inl ⟨rfl, gives_value (v := .pointer (some ⟨b, off + k * 3 + 1, none⟩)) (w' := W) (by go_simp) ⟨Below.refl _ _, fun u hu => by cases hu; rfl⟩⟩
          | 14, _, rfl =>
            have e13 : v13 = _ := hphi ⟨13, .data⟩ (by simp) rfl v13 rfl _ rfl
            subst e13
            exact .inl ⟨rfl, gives_value (v := .agg #[.int .u64 d0, .int .u64 d1]) (w' := W) (by go_simp) ⟨Below.refl _ _, fun u hu => by cases hu; rfl⟩⟩
          | 15, _, rfl =>
            have e14 : v14 = _ := hphi ⟨14, .data⟩ (by simp) rfl v14 rfl _ rfl
            subst e14
            refine .inl ⟨rfl, gives_call (f := 42) (args := #[.agg #[.int .u64 d0, .int .u64 d1]]) (by go_simp) ((rbytes_any (d0, d1) HWf.out W).mono ?_)⟩
            rintro e W' ⟨rfl, hb'⟩
            exact ⟨_, rfl, hb', fun u hu => by cases hu; rfl⟩
          | 16, _, rfl =>
            have e15 : v15 = _ := hphi ⟨15, .data⟩ (by simp) rfl v15 rfl _ rfl
            subst e15
            refine .inl ⟨rfl, gives_call (f := 41) (args := #[.string (ofL (digB (d0, d1)))]) (by go_simp) ((rtxt_any (ofL (digB (d0, d1))) W (by rw [size_ofL, digB_len]; omega)).mono ?_)⟩
            rintro e W' ⟨rfl, hb'⟩
            exact ⟨_, rfl, hb', fun u hu => by cases hu; rw [toL_ofL]⟩
          | 17, _, rfl =>
            have e8 : v8 = _ := hphi ⟨8, .data⟩ (by simp) rfl v8 rfl _ rfl
            have e16 : v16 = _ := hphi ⟨16, .data⟩ (by simp) rfl v16 rfl _ rfl
            subst e8 e16
            exact .inl ⟨rfl, gives_value (v := .string (ofL cur ++ ofL (encT (toL nm)) ++ ofL (encT (digB (d0, d1))))) (w' := W) (by go_simp) ⟨Below.refl _ _, fun u hu => by cases hu; rfl⟩⟩
          | i + 18, hi, _ => exact absurd hi (by omega)
        case tailB =>
          intro vs W hv hR hphi
          obtain ⟨v0, v1, v2, v3, v4, v5, v6, v7, v8, v9, v10, v11, v12, v13, v14, v15, v16, v17, rfl⟩ := list18 hv
          simp only [List.zip, List.zipWith, putAll, Act.put, List.setIfInBounds_toArray, List.set, List.drop]
          have e0 : v0 = _ := hphi 0 v0 rfl _ rfl
          have e1 : v1 = _ := hphi 1 v1 rfl _ rfl
          have e2 : v2 = _ := hphi 2 v2 rfl _ rfl
          have e3 : v3 = _ := hphi 3 v3 rfl _ rfl
          have e4 : v4 = _ := hphi 4 v4 rfl _ rfl
          have e5 : v5 = _ := hphi 5 v5 rfl _ rfl
          have e6 : v6 = _ := hphi 6 v6 rfl _ rfl
          have e7 : v7 = _ := hphi 7 v7 rfl _ rfl
          have e8 : v8 = _ := hphi 8 v8 rfl _ rfl
          have e9 : v9 = _ := hphi 9 v9 rfl _ rfl
          have e10 : v10 = _ := hphi 10 v10 rfl _ rfl
          have e11 : v11 = _ := hphi 11 v11 rfl _ rfl
          have e12 : v12 = _ := hphi 12 v12 rfl _ rfl
          have e13 : v13 = _ := hphi 13 v13 rfl _ rfl
          have e14 : v14 = _ := hphi 14 v14 rfl _ rfl
          have e15 : v15 = _ := hphi 15 v15 rfl _ rfl
          have e16 : v16 = _ := hphi 16 v16 rfl _ rfl
          have e17 : v17 = _ := hphi 17 v17 rfl _ rfl
          subst e0 e1 e2 e3 e4 e5 e6 e7 e8 e9 e10 e11 e12 e13 e14 e15 e16 e17
          have HB5 : Hid (Below w.heap.size w W) := hBel.out.trans (hR.mono (by omega))
          have K5 := Lib.hid (hBk.out.below hR (by omega))
          rw [HN.out]
          clear hR g1 g2 g3 s01 s0 s1 s2
          go_wp2_with fail
          go_roundw
          case rel => exact ⟨k + 1, by omega, by go_num, rfl, K5.out, HB5.out⟩
          case measure => simp [intOf]; omega
      · have hlz : ¬ (k : Int) < (n : Int) := by omega
        have HEQ : Hid (ofL (hd ++ encIs (fs.take k)) = ofL (encA kn lab fs)) := by
          show _ = _
          rw [List.take_of_length_le (by rw [HL.out]; omega), HEO.out]
        go_wp2_with fail
        go_ret
        exact ⟨by rw [← HEQ.out]; rfl, hBel.out⟩

set_option maxRecDepth 100000 in
set_option maxHeartbeats 4000000 in
theorem rkey_any (kind : Int) (lab : ByteArray) (A : Option Addr) (n c B : Nat) (fs : List Ipt) (w : World) (h0 : Sl w B 3 A n (flat ipC fs)) (hB : B ≤ w.heap.size) (hn : n ≤ maxLen) (hlab : lab.size ≤ maxLen) (hfs : ∀ f ∈ fs, f.1.size ≤ maxLen) (hwf : ∀ f ∈ fs, WfD f.2) :
    Calls Tryz.prog 15 #[.agg #[.int .i64 kind, .string lab, .slice A n c]] w (KeyEnd kind lab fs w) := by
  have HL := Lib.hid (h0.len ipC_len (by omega))
  obtain ⟨W, hW⟩ : ∃ W, (w.alloc (.cells #[.int .i64 kind, .string lab, .slice A n c] 31)).alloc (.cells #[.int .u64 0, .int .u64 0] 42) = W := ⟨_, rfl⟩
  have HB : Hid (Below w.heap.size w W) := by rw [← hW]; exact ((Below.refl w.heap.size w).alloc (Nat.le_refl _) _).alloc (by simp) _
  have K0 : Hid (Bk W w.heap.size 31 #[.int .i64 kind, .string lab, .slice A n c]) := by rw [← hW]; exact (Bk.new w _ _).alloc _
  have D0 : Hid (Bk W (w.heap.size + 1) 42 #[.int .u64 0, .int .u64 0]) := by
    rw [← hW]
    have := Bk.new (w.alloc (.cells #[.int .i64 kind, .string lab, .slice A n c] 31)) 42 #[.int .u64 0, .int .u64 0]
    rw [World.size_alloc] at this
    exact this
  have zW : W.heap.size = w.heap.size + 2 := by rw [← hW]; simp
  have H0 := Lib.hid h0; have HWF := Lib.hid hwf
  have HCK := Lib.hid (rcheck_any kind lab A n c B fs W (h0.below HB.out hB) (by omega) hn hlab hfs)
  clear h0 hfs hwf
  have HR : Hid (∀ r, keyR kind lab fs = r → ∀ e w', e = Ending.returned (.tuple #[digV r.1, .int .i64 r.2]) → Below w.heap.size w w' → KeyEnd kind lab fs w e w') := fun r h e w' h1 h2 => by subst h; exact ⟨h1, h2⟩
  have u0 := K0.out.cell 0; have u1 := K0.out.cell 1; have u2 := K0.out.cell 2
  simp at u0 u1 u2
  go_enter Tryz.func15, Tryz.ntmps15
  go_wp2_with fail
  refine HCK.out.mono ?_
  rintro e w1 ⟨rfl, hb1⟩
  have hz1 := hb1.size
  have HB1 : Hid (Below w.heap.size w w1) := HB.out.trans (hb1.mono (by omega))
  have K1 := Lib.hid (K0.out.below hb1 (by omega)); have D1 := Lib.hid (D0.out.below hb1 (by omega))
  clear u0 u1 u2 hb1 hW HCK
  by_cases hc : chkA kind lab fs = 0
  · have HV : Hid (keyR kind lab fs = (ofB (encA kind.toNat lab fs), 0)) := by show _ = _; unfold keyR; rw [if_pos hc]
    obtain ⟨hkd, hl90, hl300, hfl⟩ := chkA_zero hc
    obtain ⟨kn, rfl⟩ : ∃ kn : Nat, kind = (kn : Int) := ⟨kind.toNat, by omega⟩
    rw [Int.toNat_natCast] at HV
    have hkn : kn ≤ 3 := by omega
    have hlA : (encA kn lab fs).length ≤ 40000 := by
      have h1 := encN_len 5 kn (by omega)
      have h2 := encT_len2 hl90 (by omega)
      have h3 := encN_len 5 fs.length (by omega)
      have h4 := encIs_len hfl
      unfold encA
      rw [List.length_append, List.length_append, List.length_append]; omega
    rw [HL.out] at hl300
    have HEN := Lib.hid (rencA_any kn lab A n c B fs w1 (H0.out.below HB1.out hB) (by omega) hkn hl90 hl300 hfl HWF.out)
    rw [hc]
    clear hc hfl hkd
    have u0 := K1.out.cell 0; have u1 := K1.out.cell 1; have u2 := K1.out.cell 2
    simp at u0 u1 u2
    go_wp2_with fail
    refine HEN.out.mono ?_
    rintro e w2 ⟨rfl, hb2⟩
    have hz2 := hb2.size
    have HB2 := Lib.hid (HB1.out.trans (hb2.mono (by omega)))
    have D2 := Lib.hid (D1.out.below hb2 (by omega))
    have HOF := Lib.hid (rof_any (ofL (encA kn lab fs)) w2 (by rw [size_ofL]; unfold maxLen; omega))
    clear hb2 HEN u0 u1 u2
    go_wp2_with fail
    refine HOF.out.mono ?_
    rintro e w10 ⟨rfl, hb10⟩
    rw [toL_ofL]
    have hz10 := hb10.size
    have HB10 := Lib.hid (HB2.out.trans (hb10.mono (by omega)))
    have HD10 := Lib.hid (D2.out.below hb10 (by omega))
    generalize ofB (encA kn lab fs) = dd at *
    obtain ⟨a0, a1⟩ := dd
    simp only [digV]
    have x0 := HD10.out.cell 0; have x1 := HD10.out.cell 1; simp at x0 x1
    have f0 := HD10.out.free 0; have f1 := HD10.out.free 1
    clear hb10 HOF
    go_wp2_with fail
    refine bodyPost_ret (res_cellDe Tryz.results15 rfl (HD10.out.set2 _ _) rfl) rfl ?_
    exact HR.out _ HV.out _ _ rfl (below_set2 HB10.out (by simp) _ _)
  · have HV : Hid (keyR kind lab fs = ((0, 0), chkA kind lab fs)) := by show _ = _; unfold keyR; rw [if_neg hc]
    have hcb : (chkA kind lab fs != 0) = true := by rw [bne_iff_ne]; exact hc
    have x0 := D1.out.cell 0; have x1 := D1.out.cell 1; simp at x0 x1
    have f0 := D1.out.free 0; have f1 := D1.out.free 1
    clear hc
    go_wp2_with fail
    refine bodyPost_ret (res_cellDe Tryz.results15 rfl (D1.out.set2 _ _) rfl) rfl ?_
    exact HR.out _ HV.out _ _ rfl (below_set2 HB1.out (by simp) _ _)
end Go.Proofs.YtiphbincnnppdaaGreatDoor

namespace Go.Proofs.YtiphbincnnppdaaGreatDoor
open Go.ChangeShapes Go.WideShapes Go.ChangeAt Go.RowKit Go.Joins Go.Deep

@[go_sem] theorem guardIp : Tryz.prog.eqGuardType Tryz.prog.depth 69 = false := by kernel_rfl
theorem stoodIp : Tryz.prog.stoodInHeld 69 = false := by kernel_rfl
@[go_sem high] theorem eqIp (s t : ByteArray) (a b c d : Int) (w : World) : (Op.equalIn 10000 69 (.agg #[.string s, .int .u64 a, .int .u64 b]) (.agg #[.string t, .int .u64 c, .int .u64 d])).run Tryz.prog w = .ok (s.toList == t.toList && (a == c && b == d)) w := by
  have hS : Tryz.prog.underlying 69 = some (.struct (Tryz.prog.fieldsOf 69)) := by kernel_rfl
  have a28 := Tryz.isAgg42
  have z28 := Tryz.sizeOf42
  have a9 := Tryz.isAgg9
  have u9 := Tryz.underlying9
  have e28 := fun w => eqDig0 9997 a b c d w
  rw [show (10000 : Nat) = 9999 + 1 from rfl, run_equalIn_agg w 9999 69 _ _ hS stoodIp]
  simp only [Program.fieldsOf, Tryz.underlying69]
  go_simp
  by_cases h1 : s.toList = t.toList <;> by_cases h2 : a = c <;> by_cases h3 : b = d <;> simp [h1, h2, h3]

abbrev Actn := Int × ByteArray × List Ipt
set_option maxRecDepth 100000 in
set_option maxHeartbeats 2000000 in
theorem sameA_any (k0 k1 : Int) (l0 l1 : ByteArray) (A0 A1 : Option Addr) (n0 c0 n1 c1 B : Nat) (rs qs : List Ipt) (w : World) (h0 : Sl w B 3 A0 n0 (flat ipC rs)) (h1 : Sl w B 3 A1 n1 (flat ipC qs)) (hB : B ≤ w.heap.size) (m0 : n0 ≤ maxLen) :
    Calls Tryz.prog 20 #[.agg #[.int .i64 k0, .string l0, .slice A0 n0 c0], .agg #[.int .i64 k1, .string l1, .slice A1 n1 c1]] w fun e w' => e = .returned (.bool (decide ((k0, l0, rs) = ((k1, l1, qs) : Actn)))) ∧ Below w.heap.size w w' := by
  unfold maxLen at m0
  have HL0 := Lib.hid (h0.len ipC_len (by omega))
  have HL1 := Lib.hid (h1.len ipC_len (by omega))
  obtain ⟨W, hW⟩ : ∃ W, (w.alloc (.cells #[.int .i64 k0, .string l0, .slice A0 n0 c0] 31)).alloc (.cells #[.int .i64 k1, .string l1, .slice A1 n1 c1] 31) = W := ⟨_, rfl⟩
  have HB : Hid (Below w.heap.size w W) := by rw [← hW]; exact ((Below.refl w.heap.size w).alloc (Nat.le_refl _) _).alloc (by simp) _
  have kk0 : Bk W w.heap.size 31 #[.int .i64 k0, .string l0, .slice A0 n0 c0] := by rw [← hW]; exact (Bk.new w _ _).alloc _
  have kk1 : Bk W (w.heap.size + 1) 31 #[.int .i64 k1, .string l1, .slice A1 n1 c1] := by
    rw [← hW]
    have := Bk.new (w.alloc (.cells #[.int .i64 k0, .string l0, .slice A0 n0 c0] 31)) 31 #[.int .i64 k1, .string l1, .slice A1 n1 c1]
    rw [World.size_alloc] at this
    exact this
  have u0 := kk0.cell 0; have u1 := kk0.cell 1; have u2 := kk0.cell 2
  have v0 := kk1.cell 0; have v1 := kk1.cell 1; have v2 := kk1.cell 2
  simp at u0 u1 u2 v0 v1 v2
  have H0 := Lib.hid (h0.below HB.out hB); have H1 := Lib.hid (h1.below HB.out hB); clear h0 h1 kk0 kk1
  have hM : Hid (decide ((k0, l0, rs) = ((k1, l1, qs) : Actn)) = true ↔ k0 = k1 ∧ l0 = l1 ∧ rs = qs) := by
    show _ ↔ _
    rw [decide_eq_true_iff]; simp only [Prod.mk.injEq]
  generalize decide ((k0, l0, rs) = ((k1, l1, qs) : Actn)) = mb at *
  have hs := str_dec l0 l1
  go_enter Tryz.func20, Tryz.ntmps20
  by_cases e1 : k0 = k1
  · have HE1 := Lib.hid e1
    have b1 : (k0 != k1) = false := by simp [e1]
    clear e1
    by_cases e2 : l0 = l1
    · have HE2 := Lib.hid e2
      rw [decide_eq_true e2] at hs
      clear e2
      by_cases hn : n0 = n1
      · have hni : (n0 : Int) = (n1 : Int) := by omega
        have hnb : ((n0 : Int) != (n1 : Int)) = false := by simp [hn]
        have HN := Lib.hid hn
        clear hni hn
        go_wp2
        go_loopw [5] (fun i wr => ∃ k nq : Nat, k ≤ n0 ∧ i = .int .i64 k ∧ wr = W.drewN nq ∧ Hid (rs.take k = qs.take k)) (fun i _ => n0 - (intOf i).toNat)
        case atStart => exact ⟨0, 0, Nat.zero_le _, rfl, rfl, rfl⟩
        case round =>
          obtain ⟨k, nq, hk, rfl, rfl, heq⟩ := hrel
          by_cases hlt : k < n0
          · have hlt1 : k < n1 := by have := HN.out; omega
            obtain ⟨b0, o0, r, rfl, _, hr, x0, x1, x2⟩ := H0.out.ip hlt
            obtain ⟨b1', o1, q, rfl, _, hq, y0, y1, y2⟩ := H1.out.ip hlt1
            have HR := Lib.hid hr; have HQ := Lib.hid hq; clear hr hq
            have hlz : (k : Int) < (n0 : Int) := by omega
            have hlz1 : (k : Int) < (n1 : Int) := by omega
            by_cases e : r = q
            · have t1 : (r.1.toList == q.1.toList && (r.2.1 == q.2.1 && r.2.2 == q.2.2)) = true := by rw [e]; simp
              have HE := Lib.hid e; clear e
              have hnx : Hid (rs.take (k + 1) = qs.take (k + 1)) := by
                show _ = _
                rw [take_snoc HR.out, take_snoc HQ.out, heq.out, HE.out]
              go_wp2
              go_quiet (fail)
              go_wp2
              go_roundw
              case rel => exact ⟨k + 1, _, by omega, by go_num, rfl, hnx⟩
              case measure => simp [intOf]; omega
            · have t1 : (r.1.toList == q.1.toList && (r.2.1 == q.2.1 && r.2.2 == q.2.2)) = false := by
                rw [Bool.eq_false_iff]; intro hh
                simp only [Bool.and_eq_true, beq_iff_eq, ByteArray.toList_eq] at hh
                apply e
                exact Prod.ext (data_inj hh.1) (Prod.ext hh.2.1 hh.2.2)
              have HE := Lib.hid e; clear e
              go_wp2
              go_quiet (fail)
              go_wp2
              go_ret
              refine ⟨ret_bool ?_, below_drewN (below_drewN HB.out _) _⟩
              symm
              rw [Bool.eq_false_iff]
              intro hh
              have := (hM.out.1 hh).2.2
              subst this
              exact HE.out (Option.some.inj (HR.out.symm.trans HQ.out))
          · have hall : Hid (mb = true) := by
              have := heq.out
              rw [List.take_of_length_le (by rw [HL0.out]; omega), List.take_of_length_le (by rw [HL1.out, ← HN.out]; omega)] at this
              exact hM.out.2 ⟨HE1.out, HE2.out, this⟩
            have hlz : ¬ (k : Int) < (n0 : Int) := by omega
            go_wp2
            go_ret
            exact ⟨ret_bool hall.out.symm, below_drewN HB.out _⟩
      · have hne : ((n0 : Int) != (n1 : Int)) = true := by rw [bne_iff_ne]; omega
        have HF : Hid (mb = false) := by
          show _ = _
          rw [Bool.eq_false_iff]; intro hh
          have := (hM.out.1 hh).2.2
          subst this
          exact hn (HL0.out.symm.trans HL1.out)
        clear hn
        go_wp2
        go_ret
        exact ⟨ret_bool HF.out.symm, HB.out⟩
    · rw [decide_eq_false e2] at hs
      have HF : Hid (mb = false) := by
        show _ = _
        rw [Bool.eq_false_iff]; intro hh
        exact e2 (hM.out.1 hh).2.1
      clear e2
      go_wp2
      go_ret
      exact ⟨ret_bool HF.out.symm, HB.out⟩
  · have b1 : (k0 != k1) = true := by rw [bne_iff_ne]; exact e1
    have HF : Hid (mb = false) := by
      show _ = _
      rw [Bool.eq_false_iff]; intro hh
      exact e1 (hM.out.1 hh).1
    clear e1
    go_wp2
    go_ret
    exact ⟨ret_bool HF.out.symm, HB.out⟩

theorem cellsIp : Tryz.prog.cellsOf 69 = 3 := by kernel_rfl
theorem cellsDg : Tryz.prog.cellsOf 42 = 2 := by kernel_rfl
theorem cellsU64 : Tryz.prog.cellsOf 40 = 1 := by kernel_rfl
theorem cellsAc : Tryz.prog.cellsOf 31 = 3 := by kernel_rfl
theorem cellsIps : Tryz.prog.cellsOf 29 = 1 := by kernel_rfl
section
variable {H : Type} {enc : TypeId × Value → H} {P : Program} {w : World} {base : Nat} {spare : Nat → Bool} {held : Bool} {fuel : Nat} {cs : List Value} {x : DataW H × List MemPlace}
theorem wf_u64 {n : Int} (h : (Lit.int .u64 n).wf = true) : 0 ≤ n ∧ n < 18446744073709551616 := by
  simp only [Lit.wf, Bool.and_eq_true, decide_eq_true_eq] at h
  have h1 : IntKind.u64.min = 0 := by decide
  have h2 : IntKind.u64.max = 18446744073709551615 := by decide
  rw [h1, h2] at h
  omega
theorem trod_digP {t e : TypeId} (ht : P.underlying t = some (.array 2 e)) (he : P.underlying e = some (.int .u64)) (hC : P.cellsOf t = 2) (hc : P.cellsOf e = 1)
    (h : DataW.trod enc P w base spare held fuel t cs = some x) : ∃ d : Dig, cs = [.int .u64 d.1, .int .u64 d.2] ∧ WfD d := by
  obtain ⟨xs, m, _, _, hlen, hxl, hf⟩ := DataW.trod_array ht h
  rw [hC] at hlen
  obtain ⟨c0, c1, rfl⟩ := len2 hlen
  obtain ⟨y0, y1, rfl⟩ := len2 hxl
  have h0 := hf 0 (by omega)
  have h1 := hf 1 (by omega)
  rw [hc] at h0 h1
  simp at h0 h1
  obtain ⟨a, ha, _, wa⟩ := DataW.trod_int he h0
  obtain ⟨b, hb, _, wb⟩ := DataW.trod_int he h1
  simp at ha hb
  exact ⟨(a, b), by rw [ha, hb], (wf_u64 wa).1, (wf_u64 wa).2, (wf_u64 wb).1, (wf_u64 wb).2⟩
theorem trod_ipP {t s d e : TypeId} {f0 f1 : Field} (ht : P.underlying t = some (.struct #[f0, f1])) (o0 : f0.offset = 0) (o1 : f1.offset = 1) (t0 : f0.type = s) (t1 : f1.type = d) (hs : P.underlying s = some .string) (hd : P.underlying d = some (.array 2 e)) (he : P.underlying e = some (.int .u64))
    (hC : P.cellsOf t = 3) (hcs : P.cellsOf s = 1) (hcd : P.cellsOf d = 2) (hc : P.cellsOf e = 1)
    (h : DataW.trod enc P w base spare held fuel t cs = some x) : ∃ r : Ipt, cs = ipC r ∧ r.1.size ≤ maxLen ∧ WfD r.2 := by
  obtain ⟨xs, m, _, _, hlen, hxl, hf⟩ := DataW.trod_struct ht h
  rw [hC] at hlen
  obtain ⟨c0, c1, c2, rfl⟩ := len3 hlen
  obtain ⟨y0, y1, rfl⟩ := len2 hxl
  have h0 := hf 0 f0 rfl
  have h1 := hf 1 f1 rfl
  rw [o0, t0, hcs] at h0
  rw [o1, t1, hcd] at h1
  simp at h0 h1
  obtain ⟨a, ha, _, hz⟩ := DataW.trod_string hs h0
  obtain ⟨dd, hb, hw⟩ := trod_digP hd he hcd hc h1
  simp at ha hb
  exact ⟨(a, dd), by rw [ha, hb.1, hb.2]; rfl, hz, hw⟩
theorem trod_acP {t i s l e d u : TypeId} {f0 f1 f2 g0 g1 : Field} (ht : P.underlying t = some (.struct #[f0, f1, f2])) (o0 : f0.offset = 0) (o1 : f1.offset = 1) (o2 : f2.offset = 2) (t0 : f0.type = i) (t1 : f1.type = s) (t2 : f2.type = l)
    (hi : P.underlying i = some (.int .i64)) (hs : P.underlying s = some .string) (hl : P.underlying l = some (.slice e)) (he : P.underlying e = some (.struct #[g0, g1])) (p0 : g0.offset = 0) (p1 : g1.offset = 1) (q0 : g0.type = s) (q1 : g1.type = d) (hd : P.underlying d = some (.array 2 u)) (hu : P.underlying u = some (.int .u64))
    (hC : P.cellsOf t = 3) (hci : P.cellsOf i = 1) (hcs : P.cellsOf s = 1) (hcl : P.cellsOf l = 1) (hce : P.cellsOf e = 3) (hcd : P.cellsOf d = 2) (hcu : P.cellsOf u = 1) (h : DataW.trod enc P w base spare held fuel t cs = some x) :
    ∃ k lab A n c fs, cs = [.int .i64 k, .string lab, .slice A n c] ∧ lab.size ≤ maxLen ∧ Sl w w.heap.size 3 A n (flat ipC fs) ∧ n ≤ c ∧ c ≤ maxLen ∧ ∀ f ∈ fs, f.1.size ≤ maxLen ∧ WfD f.2 := by
  obtain ⟨xs, m, _, _, hlen, hxl, hf⟩ := DataW.trod_struct ht h
  rw [hC] at hlen
  obtain ⟨c0, c1, c2, rfl⟩ := len3 hlen
  obtain ⟨y0, y1, y2, rfl⟩ := len3 hxl
  have h0 := hf 0 f0 rfl
  have h1 := hf 1 f1 rfl
  have h2 := hf 2 f2 rfl
  rw [o0, t0, hci] at h0
  rw [o1, t1, hcs] at h1
  rw [o2, t2, hcl] at h2
  simp at h0 h1 h2
  obtain ⟨a, ha, _⟩ := DataW.trod_int hi h0
  obtain ⟨b, hb', _, hz⟩ := DataW.trod_string hs h1
  obtain ⟨A', n', c', us, he', k1, k2, k3, k4⟩ := trod_slP (encA := ipC) (Q := fun f => f.1.size ≤ maxLen ∧ WfD f.2) hl hce (by omega) ipC_len (fun _ _ _ hh => trod_ipP he p0 p1 q0 q1 hs hd hu hce hcs hcd hcu hh) h2
  simp at ha hb' he'
  exact ⟨a, b, A', n', c', us, by rw [ha, hb', he'], hz, k1, k2, k3, k4⟩
end
section
variable {H : Type} {enc : TypeId × Value → H} {W : World} {base : Nat} {v : Value} {d : DataW H} {p : List MemPlace} {r : Reach} {b0 : Nat} {sp : Nat → Bool} {held : Bool}
set_option maxRecDepth 100000 in
theorem open_action (hv : Value.okWide Tryz.prog W r b0 31 v) (h : DataW.Trod enc Tryz.prog W base sp held 31 v d p) : ∃ k lab A n c fs, v = .agg #[.int .i64 k, .string lab, .slice A n c] ∧ lab.size ≤ maxLen ∧ Sl W W.heap.size 3 A n (flat ipC fs) ∧ n ≤ c ∧ c ≤ maxLen ∧ ∀ f ∈ fs, f.1.size ≤ maxLen ∧ WfD f.2 := by
  obtain ⟨cs, rfl, hsz⟩ := okWide_struct Tryz.underlying31 hv
  obtain ⟨fuel, hf⟩ := h
  obtain ⟨k, lab, A, n, c, fs, he, k'⟩ := trod_acP Tryz.underlying31 rfl rfl rfl rfl rfl rfl Tryz.underlying3 Tryz.underlying9 Tryz.underlying29 Tryz.underlying69 rfl rfl rfl rfl Tryz.underlying42 Tryz.underlying40 cellsAc cellsInt cellsStr cellsIps cellsIp cellsDg cellsU64 hf
  refine ⟨k, lab, A, n, c, fs, ?_, k'⟩
  have : cs.toList = [.int .i64 k, .string lab, .slice A n c] := he
  rw [show cs = #[.int .i64 k, .string lab, .slice A n c] by rw [← Array.toArray_toList (xs := cs), this]]
end
end Go.Proofs.YtiphbincnnppdaaGreatDoor
