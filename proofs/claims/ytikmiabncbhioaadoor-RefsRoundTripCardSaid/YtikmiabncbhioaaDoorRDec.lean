/-
  cordwoodref11.Decode.
-/
import Derived.Test.YtikmiabncbhioaaDoorREnc
import Derived.Test.YtikmiabncbhioaaDoorSet
import Derived.Test.YtikmiabncbhioaaDoorApd
namespace Go.Proofs.YtikmiabncbhioaaDoor
open Go.RowKit

section
variable {P : Program} {w : World}
/-- an append at a step of a region that draws its order -/
theorem step_append_ap {ops : Array Oper} {o : Oper} {a : Act} {K : Act → World → Prop} {Q : Exit → Act → World → Prop} {E : Prop} (hgd : o.guard = none) (s x : Operand) (t : TypeId)
    (ho : o.op = .call { callee := .builtin .append, args := #[s, x], argTypes := #[t, t] })
    (base : Nat) (e : TypeId) (i : TypeInfo) (z : Value) (size bytes : Nat) (ht : P.underlying t = some (.slice e)) (hi : P.info? e = some i) (hz : i.zero = some z)
    (hsize : i.size = size) (hby : i.bytes = bytes) (hzs : z.cells.size = size) (hsz : 0 < size)
    (A : Option Addr) (n c : Nat) (xs : List Value) (hs : a.eval s = .slice A n c) (hown : Apd w base e size A n c xs)
    (B : Nat) (A' : Option Addr) (m c' : Nat) (ys : List Value) (hx : a.eval x = .slice A' m c') (hsl : Sl w B size A' m ys) (h1 : ∀ u ∈ ys, u.oneCell' = true)
    (h63 : n + m ≤ maxLen) (hbytes : (n + m) * bytes ≤ 140737488355328) (hbase : base ≤ w.heap.size)
    (h : ∀ A2 c2 w', Apd w' base e size A2 (n + m) c2 (xs ++ ys) → Below base w w' → n + m ≤ c2 → c2 ≤ maxLen → K (a.put o.dst (.slice A2 (n + m) c2)) w') :
    if Region.wanted o (yielded ops a.tmps) = true then Oper.wp P o a w K Q else E := by
  have hw : Region.wanted o (yielded ops a.tmps) = true := by simp [Region.wanted, hgd]
  rw [if_pos hw]
  obtain ⟨A2, c2, w', hr, ho', hg, hc1, hc2, _⟩ := run_append_apd (P := P) t o.type i z bytes ht hi hz hsize hby hzs hsz hown (c' := c') hsl h1 h63 hbytes hbase
  unfold Oper.wp
  simp [execOp, ho, resolve, invoke, builtin, hs, hx, hr, Result.andThen]
  exact h A2 c2 w' ho' hg hc1 hc2
end

def RetU (r : List Upd × Int) (w : World) (e : Ending) (w' : World) : Prop :=
  ∃ A m c, e = .returned (.tuple #[.slice A m c, .int .i64 r.2]) ∧ Sl w' w'.heap.size 5 A m (flat upC r.1) ∧ m ≤ c ∧ c ≤ maxLen ∧ Below w.heap.size w w'
theorem retU_none {r : List Upd × Int} {w w' : World} {A : Option Addr} {x : Int} (hr : r = ([], x)) (hb : Below w.heap.size w w') : RetU r w (.returned (.tuple #[.slice A 0 0, .int .i64 x])) w' := by
  rw [hr]; exact ⟨A, 0, 0, rfl, Sl.nil _ _ _ _, Nat.le_refl _, Nat.zero_le _, hb⟩
def comb (acc : List Upd) : Option (List Upd × Bytes) → Option (List Upd × Bytes)
  | none => none
  | some (us, q) => some (acc ++ us, q)
theorem comb_nil (o : Option (List Upd × Bytes)) : comb [] o = o := by
  match o with
  | none => rfl
  | some (us, q) => rfl
theorem rdL_step (n : Nat) (l : Bytes) (acc : List Upd) : comb acc (rdL (n + 1) l) = match rdU l with | none => none | some (u, r) => comb (acc ++ [u]) (rdL n r) := by
  rw [rdL]
  cases rdU l with
  | none => rfl
  | some p =>
    obtain ⟨u, r⟩ := p
    simp only
    cases rdL n r with
    | none => rfl
    | some p2 => obtain ⟨us, q⟩ := p2; simp [comb]
theorem Apd.cap {w : World} {base size n c : Nat} {e : TypeId} {A : Option Addr} {xs : List Value} (h : Apd w base e size A n c xs) : n ≤ c ∧ c ≤ maxLen := by
  rcases h with h | ⟨rfl, rfl, _⟩
  · obtain ⟨A', c', e, h1, h2⟩ := ownsRow_form h
    cases e; exact ⟨h1, h2⟩
  · exact ⟨Nat.le_refl _, Nat.zero_le _⟩
theorem toL_from (s : ByteArray) (k : Nat) : toL (s.extract k s.size) = (toL s).drop k := by
  show (s.extract k s.size).data.toList = _
  rw [extract_list, List.take_of_length_le]; rfl
  rw [List.length_drop]; show (toL s).length - k ≤ _; rw [← size_toL]; omega

set_option maxRecDepth 100000 in
set_option maxHeartbeats 8000000 in
theorem refDecode_any (s : ByteArray) (w : World) (hs : s.size ≤ 1000000) : Calls Tryd.prog 30 #[.string s] w (RetU (decR (toL s)) w) := by
  have HR : Hid (∀ r, decR (toL s) = r → ∀ e w', RetU r w e w' → RetU (decR (toL s)) w e w') := fun r h e w' hh => by rw [h]; exact hh
  have HN : Hid ((getI (toL s)).2.2 ≠ 0 ∨ 1000 < (getI (toL s)).1 → decR (toL s) = ([], 13)) := fun h => by unfold decR; rw [if_pos h]
  have HRF : Hid (∀ n k us r, getI (toL s) = (n, k, 0) → n ≤ 1000 → rdL n ((toL s).drop k) = some (us, r) → decR (toL s) = if (encR us).2 ≠ 0 ∨ (encR us).1 ≠ toL s then ([], 13) else (us, 0)) := fun n k us r h1 h2 h3 => dec_ref h1 h2 h3
  have HNN : Hid (∀ n k, getI (toL s) = (n, k, 0) → rdL n ((toL s).drop k) = none → decR (toL s) = ([], 13)) := fun n k h1 h2 => dec_none h1 h2
  have hgl := getI_le (toL s)
  rw [← size_toL] at hgl
  obtain ⟨i0, hi, hz0, hz1, hz2⟩ := info_parts info30
  have Hi := Lib.hid hi; have Hz0 := Lib.hid hz0; have Hz1 := Lib.hid hz1; have Hz2 := Lib.hid hz2
  clear hi hz0 hz1 hz2
  go_enter Tryd.func30, Tryd.ntmps30
  go_wp2_with fail
  refine (refGetInt_any s _).mono ?_
  generalize hg : getI (toL s) = g at *
  have HG := Lib.hid hg; clear hg
  obtain ⟨n, k, e⟩ := g
  rintro e' w' ⟨rfl, rfl⟩
  simp only at HN hgl ⊢
  by_cases he : e = 0
  · subst he
    by_cases hlim : 1000 < n
    · have hli : (1000 : Int) < (n : Int) := by omega
      have hfin := Lib.hid (HN.out (.inr hlim))
      go_wp2
      go_ret2
      exact retU_none hfin.out ((Below.refl _ _).alloc (Nat.le_refl _) _)
    · have hli : ¬ (1000 : Int) < (n : Int) := by omega
      have HRF2 := Lib.hid (fun us r h => HRF.out n k us r rfl (by omega) h)
      have HNN2 := Lib.hid (HNN.out n k rfl)
      clear HRF HNN HN
      have hkb : (k : Int) ≤ (s.size : Int) := by omega
      have hs0 : (s.extract k s.size).size = s.size - k := by rw [ByteArray.size_extract]; omega
      have HQ0 := Lib.hid (toL_from s k)
      go_wp2
      generalize s.extract k s.size = q0 at *
      have HA0 : Hid (Apd (w.alloc (.cells #[] 30)) w.heap.size 30 5 (some ⟨w.heap.size, 0, none⟩) 0 0 (flat upC [])) := .inr ⟨rfl, rfl, rfl⟩
      have HB0 : Hid (Below w.heap.size w (w.alloc (.cells #[] 30))) := (Below.refl _ _).alloc (Nat.le_refl _) _
      go_loopw [7, 8, 9] (fun v r i wr => ∃ (j : Nat) (A : Option Addr) (c : Nat) (q : ByteArray) (acc : List Upd), j ≤ n ∧ i = .int .i64 j ∧ v = .slice A j c ∧ r = .string q ∧ q.size ≤ 1000000 ∧ Hid (Apd wr w.heap.size 30 5 A j c (flat upC acc)) ∧ Hid (rdL n ((toL s).drop k) = comb acc (rdL (n - j) (toL q))) ∧ Hid (∀ u ∈ acc, u.1.size ≤ 65536 ∧ WfU u) ∧ Hid (Below w.heap.size w wr)) (fun _ _ i _ => n - (intOf i).toNat)
      case atStart => exact ⟨0, _, 0, q0, [], Nat.zero_le _, rfl, rfl, rfl, by omega, HA0.out, by show _ = _; rw [comb_nil, HQ0.out]; rfl, by simp [Hid], HB0.out⟩
      case round =>
        clear HA0 HB0 HQ0 hs0
        obtain ⟨j, A, c, q, acc, hj, rfl, rfl, rfl, hq, hA, hrd, hac, hBel⟩ := hrel
        by_cases hlt : j < n
        · have hlz : (j : Int) < (n : Int) := by omega
          have HST : Hid (rdL n ((toL s).drop k) = match rdU (toL q) with | none => none | some (u, r) => comb (acc ++ [u]) (rdL (n - (j + 1)) r)) := by
            show _ = _
            rw [hrd.out, show n - j = n - (j + 1) + 1 by omega, rdL_step]
          have HRU : Hid (rdU (toL q) = if (getT (toL q)).2.2 ≠ 0 ∨ (toL q).length < (getT (toL q)).2.1 + 32 then none else some ((ofL (getT (toL q)).1, dg ((toL q).drop (getT (toL q)).2.1), dg ((toL q).drop ((getT (toL q)).2.1 + 16))), (toL q).drop ((getT (toL q)).2.1 + 32))) := rfl
          have hgt := getT_le (toL q)
          rw [← size_toL] at hgt HRU
          go_wp2_with fail
          refine (refGetText_any q (by unfold maxLen; omega) _).mono ?_
          generalize getT (toL q) = g at *
          obtain ⟨t, m, e⟩ := g
          obtain ⟨ts, hts⟩ : ∃ ts, ofL t = ts := ⟨_, rfl⟩
          rintro e' w' ⟨rfl, rfl⟩
          simp only at hgt HRU ⊢
          rw [hts] at HRU ⊢
          clear hts
          by_cases he : e = 0
          · subst he
            have hz32 : Hid (IntKind.i64.wrap ((m : Int) + 32) = (m : Int) + 32) := IntWalk.i64_in _ (by omega)
            by_cases hsh : q.size < m + 32
            · have hshi : (q.size : Int) < (m : Int) + 32 := by omega
              have hfin : Hid (decR (toL s) = ([], 13)) := HNN2.out (by rw [HST.out, HRU.out, if_pos (.inr hsh)])
              go_wp2
              go_ret2
              exact retU_none hfin.out (hBel.out.alloc hBel.out.size _)
            · have hshi : ¬ (q.size : Int) < (m : Int) + 32 := by omega
              have HRU2 : Hid (rdU (toL q) = some ((ts, dg ((toL q).drop m), dg ((toL q).drop (m + 16))), (toL q).drop (m + 32))) := by
                show _ = _; rw [HRU.out, if_neg (by simp; omega)]
              obtain ⟨hu1, hu2, hu3⟩ := rdU_inv HRU2.out
              have HUI : Hid (ts.size ≤ 65536 ∧ WfU (ts, dg ((toL q).drop m), dg ((toL q).drop (m + 16)))) := ⟨hu2, hu3⟩
              have HX1 := Lib.hid (toL_from q m); have HX2 := Lib.hid (toL_from q (m + 16)); have HX3 := Lib.hid (toL_from q (m + 32))
              have hy1 : (q.extract m q.size).size = q.size - m := by rw [ByteArray.size_extract]; omega
              have hy2 : (q.extract (m + 16) q.size).size = q.size - (m + 16) := by rw [ByteArray.size_extract]; omega
              have hy3 : (q.extract (m + 32) q.size).size = q.size - (m + 32) := by rw [ByteArray.size_extract]; omega
              clear hu1 hu2 hu3 HRU
              obtain ⟨x1, hx1⟩ : ∃ x, q.extract m q.size = x := ⟨_, rfl⟩
              obtain ⟨x2, hx2⟩ : ∃ x, q.extract (m + 16) q.size = x := ⟨_, rfl⟩
              rw [hx1] at HX1 hy1
              rw [hx2] at HX2 hy2
              obtain ⟨⟨a0, a1⟩, hd1⟩ : ∃ d : Dig, dg (toL x1) = d := ⟨_, rfl⟩
              obtain ⟨⟨b0, b1⟩, hd2⟩ : ∃ d : Dig, dg (toL x2) = d := ⟨_, rfl⟩
              have HD1 : Hid (digV (dg (toL x1)) = .agg #[.int .u64 a0, .int .u64 a1]) := by show _ = _; rw [hd1]; rfl
              have HD2 : Hid (digV (dg (toL x2)) = .agg #[.int .u64 b0, .int .u64 b1]) := by show _ = _; rw [hd2]; rfl
              rw [HX1.out] at hd1
              rw [HX2.out] at hd2
              rw [hd1, hd2] at HRU2 HUI
              have HACC : Hid (∀ u ∈ acc ++ [(ts, (a0, a1), (b0, b1))], u.1.size ≤ 65536 ∧ WfU u) := by
                intro u hu
                rcases List.mem_append.1 hu with hu | hu
                · exact hac.out u hu
                · rw [List.mem_singleton.1 hu]; exact HUI.out
              have HNX : Hid (rdL n ((toL s).drop k) = comb (acc ++ [(ts, (a0, a1), (b0, b1))]) (rdL (n - (j + 1)) (toL (q.extract (m + 32) q.size)))) := by
                show _ = _; rw [HST.out, HRU2.out, HX3.out]
              have hsz1 : 16 ≤ x1.size := by omega
              have hsz2 : 16 ≤ x2.size := by omega
              have hxl1 : x1.size ≤ 1000000 := by omega
              have hxl2 : x2.size ≤ 1000000 := by omega
              have hq3 : (q.extract (m + 32) q.size).size ≤ 1000000 := by omega
              have hwz := hBel.out.size
              have HJ1 : Hid (j + 1 ≤ maxLen) := by show _ ≤ _; unfold maxLen; omega
              have HJ2 : Hid ((j + 1) * 48 ≤ 140737488355328) := by show _ ≤ _; omega
              have HML1 : Hid (x1.size ≤ maxLen) := by show _ ≤ _; unfold maxLen; omega
              have HML2 : Hid (x2.size ≤ maxLen) := by show _ ≤ _; unfold maxLen; omega
              clear hd1 hd2 hy1 hy2 hy3
              go_wp2_with fail
              have hm0 : (0 : Int) ≤ (m : Int) := by omega
              have hm1 : (m : Int) ≤ (q.size : Int) := by omega
              have hm2 : (m : Int) + 16 ≤ (q.size : Int) := by omega
              have hm3 : (0 : Int) ≤ (m : Int) + 16 := by omega
              have hm4 : ((m : Int) + 16).toNat = m + 16 := by omega
              have hm5 : IntKind.i64.wrap ((m : Int) + 16) = (m : Int) + 16 := IntWalk.i64_in _ (by omega)
              go_region_held3 (fun _ => True)
                (first | exact trivial)
                (first
                  | (go_at_call 60; have _t := HD1; refine (refDigest_any x1 HML1.out hsz1 _).mono ?_; rintro e w3 ⟨rfl, hb3⟩; rw [HD1.out]
                     have HB3 := Lib.hid (hBel.out.drew.trans (hb3.mono hwz)); have hz3 : wr.heap.size ≤ w3.heap.size := hb3.size
                     have A3 := Lib.hid ((show Apd wr.drew w.heap.size 30 5 A j c (flat upC acc) from hA.out).below hb3)
                     clear hb3 HD1)
                  | (go_at_call 60; refine (refDigest_any x2 HML2.out hsz2 _).mono ?_; rintro e w4 ⟨rfl, hb4⟩; rw [HD2.out]
                     have HB4 := Lib.hid (HB3.out.trans (hb4.mono HB3.out.size)); have hz4 : w3.heap.size ≤ w4.heap.size := hb4.size
                     have A4 := Lib.hid (A3.out.below hb4)
                     clear hb4)
                  | (refine step_append_ap (by rfl) (.tmp 53) (.tmp 65) 23 (by rfl) w.heap.size 30 i0 _ 5 48 Tryd.underlying23 Hi.out Hz0.out Hz1.out Hz2.out rfl (by decide) A j c (flat upC acc) (by rfl) (A4.out.below ((Below.refl _ _).alloc (Nat.le_refl _) _)) _ (some ⟨w4.heap.size, 0, none⟩) 1 1 (flat upC [(ts, (a0, a1), (b0, b1))]) (by rfl) (Sl.new w4 30 (flat upC [(ts, (a0, a1), (b0, b1))]) 1 (size := 5) rfl) (oneCells_up _) HJ1.out HJ2.out (Nat.le_trans HB4.out.size (by simp)) ?_
                     intro A5 c5 w5 a5 hb5 hc5 hm5
                     rw [← flat_append] at a5
                     have A5' := Lib.hid a5; have HB5 := Lib.hid ((HB4.out.alloc HB4.out.size (.cells #[.string ts, .int .u64 a0, .int .u64 a1, .int .u64 b0, .int .u64 b1] 30)).trans hb5)
                     clear a5 hb5 hc5 hm5))
              clear hm0 hm1 hm2 hm3 hm4 hm5 hx1 hx2
              have hm6 : (m : Int) + 32 ≤ (q.size : Int) := by omega
              go_wp2
              go_roundw
              case rel => exact ⟨j + 1, A5, c5, _, acc ++ [(ts, (a0, a1), (b0, b1))], by omega, by go_num, rfl, rfl, hq3, A5'.out, HNX.out, HACC.out, HB5.out⟩
              case measure => simp [intOf]; omega
          · have hne : (e != 0) = true := by rw [bne_iff_ne]; exact he
            have hfin : Hid (decR (toL s) = ([], 13)) := HNN2.out (by rw [HST.out, HRU.out, if_pos (.inl he)])
            clear he
            go_wp2
            go_ret2
            exact retU_none hfin.out (hBel.out.alloc hBel.out.size _)
        · have hlz : ¬ (j : Int) < (n : Int) := by omega
          have hrd2 : rdL n ((toL s).drop k) = some (acc, toL q) := by
            rw [hrd.out, show n - j = 0 by omega, rdL]; simp [comb]
          have HF := Lib.hid (HRF2.out acc (toL q) hrd2)
          have HAC : Hid (∀ u ∈ acc, u.1.size ≤ maxLen) := fun u hu => Nat.le_trans (hac.out u hu).1 (by unfold maxLen; omega)
          have HAW : Hid (∀ u ∈ acc, WfU u) := fun u hu => (hac.out u hu).2
          have HSL := Lib.hid hA.out.sl
          have hwz := hBel.out.size
          clear hrd2 hrd
          go_wp2_with fail
          refine (refEncode_any A j c wr.heap.size acc _ HSL.out (Nat.le_refl _) (by unfold maxLen; omega) HAC.out HAW.out).mono ?_
          generalize encR acc = er at *
          obtain ⟨et, ee⟩ := er
          obtain ⟨es, hes⟩ : ∃ es, ofL et = es := ⟨_, rfl⟩
          rintro e' w3 ⟨rfl, hb3⟩
          simp only at HF ⊢
          rw [hes]
          have HES : Hid (et = toL es) := by show _ = _; rw [← hes]; rfl
          have HB3 := Lib.hid (hBel.out.trans (hb3.mono hwz))
          have AP3 := Lib.hid (hA.out.below hb3)
          clear hes hb3
          by_cases hee : ee = 0
          · subst hee
            by_cases heq : es = s
            · have t1 : (es.toList != s.toList) = false := by rw [heq]; simp
              have t2 : (es.toList == s.toList) = true := by rw [heq]; simp
              have hfin : Hid (decR (toL s) = (acc, 0)) := by
                show _ = _
                rw [HF.out, if_neg (by rw [HES.out, heq]; simp)]
              clear heq HF HES
              go_wp2
              go_ret2
              exact HR.out _ hfin.out _ _ ⟨A, j, c, rfl, AP3.out.sl, AP3.out.cap.1, AP3.out.cap.2, HB3.out⟩
            · have t2 : (es.toList == s.toList) = false := by
                rw [beq_eq_false_iff_ne, ByteArray.toList_eq, ByteArray.toList_eq]; exact fun h => heq (data_inj h)
              have t1 : (es.toList != s.toList) = true := by rw [bne, t2]; rfl
              have hfin : Hid (decR (toL s) = ([], 13)) := by
                show _ = _
                rw [HF.out, if_pos (.inr (by rw [HES.out]; exact fun h => heq (data_inj h)))]
              clear heq HF HES
              go_wp2
              go_ret2
              exact retU_none hfin.out (HB3.out.alloc HB3.out.size _)
          · have hne : (ee != 0) = true := by rw [bne_iff_ne]; exact hee
            have hfin : Hid (decR (toL s) = ([], 13)) := by
              show _ = _
              rw [HF.out, if_pos (.inl hee)]
            clear hee HF HES
            go_wp2
            go_ret2
            exact retU_none hfin.out (HB3.out.alloc HB3.out.size _)
  · have hne : (e != 0) = true := by rw [bne_iff_ne]; exact he
    have hfin := Lib.hid (HN.out (.inl he))
    clear he
    go_wp2
    go_ret2
    exact retU_none hfin.out ((Below.refl _ _).alloc (Nat.le_refl _) _)
end Go.Proofs.YtikmiabncbhioaaDoor
