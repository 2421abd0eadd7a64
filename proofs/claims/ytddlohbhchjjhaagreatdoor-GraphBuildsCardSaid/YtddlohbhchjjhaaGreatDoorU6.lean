/-
  Lemmas: graph.Order. The reader's methods elements, deps, visible. What Parse answers, in plain Lean. buildfile.Parse. What is affected by paths, and what may be seen, in plain Lean. Directories, the paths of build files and of modules. graph.Visible and the reference's Visible.
-/
import Derived.BigQuiet
import Derived.IntWalk
import Derived.Test.YtddlohbhchjjhaaGreatDoorU5

namespace Go.Proofs.YtddlohbhchjjhaaGreatDoor
open Go.RowKit Go.Maps

def pG (l : List ByteArray) : ByteArray → Option Value := fun s => if memB l s then some (.bool true) else none
theorem pG_nil : pG [] = fun _ => none := by funext s; simp [pG, memB]
theorem pG_snoc (l : List ByteArray) (x : ByteArray) : pG (l ++ [x]) = upd (pG l) x (.bool true) := by
  funext t
  unfold pG upd memB
  by_cases e : t = x
  · subst e; simp
  · have h : ((l ++ [x]).any fun y => decide (y = t)) = l.any fun y => decide (y = t) := by
      rw [List.any_append]; simp [Ne.symm e]
    rw [h, if_neg e]
theorem pG_get (l : List ByteArray) (x : ByteArray) : (pG l x).getD (.bool false) = .bool (memB l x) := by unfold pG; cases memB l x <;> rfl
def lenV : Value → Nat
  | .slice _ k _ => k
  | _ => 0
theorem Apd.grown {w w' : World} {base size n c : Nat} {e : TypeId} {A : Option Addr} {xs : List Value} {row : Option Nat} (h : Apd w base e size A n c xs) (hg : w.grownBy w' row) (hr : ∀ k, row = some k → k < base) : Apd w' base e size A n c xs := by
  rcases h with h | h
  · refine .inl (h.kept hg ?_)
    cases hv : (Value.slice A n c).ownBlock with
    | none => exact .inl rfl
    | some k => exact .inr fun e => by have h1 := ownBlock_ge h k hv; have h2 := hr k e.symm; omega
  · exact .inr h
theorem find_first {α : Type} {p : α → Bool} : ∀ {l : List α} {k : Nat} {x : α}, (∀ y ∈ l.take k, p y = false) → l[k]? = some x → p x = true → l.find? p = some x
  | [], _, _, _, h, _ => by simp at h
  | a :: l, 0, x, _, h, hx => by simp at h; subst h; simp [hx]
  | a :: l, k + 1, x, h1, h2, hx => by
    have ha := h1 a (by simp)
    rw [List.find?_cons, ha]
    exact find_first (k := k) (fun y hy => h1 y (by simp [hy])) (by simpa using h2) hx
def OrdEnd (ts : List Tg) (w : World) (e : Ending) (w' : World) : Prop :=
  ∃ A m c l err, e = .returned (.tuple #[.slice A m c, .int .i64 err]) ∧ Sl w' w'.heap.size 1 A m (strs l) ∧ m ≤ c ∧ c ≤ maxLen ∧ OrdR ts l err ∧ Below w.heap.size w w'
theorem halt_apx {P : Program} {ops : Array Oper} {rest : List Oper} {o : Oper} {a : Act} {w : World} {Q : Exit → Act → World → Prop} (s x : Operand) (t : TypeId) (_ : o.op = .call { callee := .builtin .append, args := #[s, x], argTypes := #[t, t] })
    (h : Hid (wpList P ops Q (o :: rest) a w)) : wpList P ops Q (o :: rest) a w := h
theorem strs_sn (l : List ByteArray) (x : ByteArray) : strs (l ++ [x]) = strs l ++ [.string x] := by simp [strs]

set_option maxRecDepth 100000 in
set_option maxHeartbeats 4000000 in
theorem order_any (A : Option Addr) (n c B : Nat) (ts : List Tg) (w : World) (h0 : Sl w B 4 A n (flat tgC ts)) (hok : ∀ t ∈ ts, TgOk w B t) (hB : B ≤ w.heap.size) (hnc : n ≤ c) (hcm : c ≤ maxLen) :
    Calls Tryz.prog 26 #[.agg #[.slice A n c]] w (OrdEnd ts w) := by
  have HTL := Lib.hid (h0.len tgC_len (by omega))
  have H0 := Lib.hid h0; have HOK := Lib.hid hok
  clear h0 hok
  obtain ⟨W0, hW0⟩ : ∃ W0, w.alloc (.cells #[.slice A n c] 27) = W0 := ⟨_, rfl⟩
  have HB0 : Hid (Below w.heap.size w W0) := by rw [← hW0]; exact (Below.refl _ w).alloc (Nat.le_refl _) _
  have zW0 : W0.heap.size = w.heap.size + 1 := by rw [← hW0]; simp
  have HG0 : Hid (Bk W0 w.heap.size 27 #[.slice A n c]) := by rw [← hW0]; exact Bk.new w _ _
  have HV := Lib.hid (valid_any A n c B ts W0 (H0.out.below HB0.out hB) (fun t ht => (HOK.out t ht).below HB0.out hB) (by omega) hnc hcm)
  have g0 := HG0.out.cell 0
  simp at g0
  have hmm := @run_makeMap Tryz.prog
  go_enter Tryz.func26, Tryz.ntmps26
  go_wp2_with fail
  refine HV.out.mono ?_
  rintro e w1 ⟨r, rfl, hr, hb1⟩
  have HR := Lib.hid hr
  have HB1 : Hid (Below w.heap.size w w1) := HB0.out.trans (hb1.mono (by omega))
  have hz1 := hb1.size
  have HG1 := Lib.hid (HG0.out.below hb1 (by omega))
  clear hr hb1 HV hW0 g0
  cases r with
  | false =>
    go_wp2_with fail
    go_ret2
    exact ⟨none, 0, 0, [], 1, rfl, Sl.nil _ _ _ _, Nat.le_refl _, Nat.zero_le _, .inl ⟨fun h => (by have := HR.out.2 h; cases this), rfl, rfl⟩, HB1.out⟩
  | true =>
    have HVL := Lib.hid (HR.out.1 rfl)
    have hn100 : n ≤ 100 := by have := HVL.out.few; rw [HTL.out] at this; exact this
    obtain ⟨i0, hi, hz0, hz1', hz2'⟩ := info_parts infoStr'
    have Hi := Lib.hid hi; have Hz0 := Lib.hid hz0; have Hz1 := Lib.hid hz1'; have Hz2 := Lib.hid hz2'
    clear hi hz0 hz1' hz2' HR
    have HM0 : Hid (Rm (w1.alloc (.map #[] 0)) Tryz.prog 9 w1.heap.size 0 (pG (ordK ts 0))) := by
      show Rm _ _ _ _ _ (pG []); rw [pG_nil]; exact Rm.made w1 Tryz.prog 9
    have hzz := Tryz.zeroValue4
    go_wp2_with fail
    go_loopw [5] (fun q wr => ∃ (k : Nat) (A5 : Option Addr) (c5 : Nat), q = .slice A5 k c5 ∧ k ≤ n ∧ k ≤ c5 ∧ c5 ≤ maxLen ∧ Hid (Apd wr (w1.heap.size + 1) 9 1 A5 k c5 (strs (ordK ts k))) ∧ Hid (Rm wr Tryz.prog 9 w1.heap.size k (pG (ordK ts k))) ∧ Hid (Below w1.heap.size w1 wr) ∧ w1.heap.size < wr.heap.size) (fun q _ => n - lenV q)
    case atStart => exact ⟨0, none, 0, rfl, Nat.zero_le _, Nat.le_refl _, Nat.zero_le _, .inr ⟨rfl, rfl, rfl⟩, HM0.out, (Below.refl _ w1).alloc (Nat.le_refl _) _, by simp⟩
    case round =>
      obtain ⟨k, A5, c5, rfl, hk, hkc, hcm5, hA, hM, hBel, hwz⟩ := hrel
      have HGr := Lib.hid (HG1.out.below hBel.out (by omega))
      have g0 := HGr.out.cell 0
      simp at g0
      by_cases hlt : k < n
      · have hlz : (k : Int) < (n : Int) := by omega
        obtain ⟨wo, hwo⟩ : ∃ wo, wo = wr := ⟨_, rfl⟩
        subst hwo
        have HOD := Lib.hid (ordK_ordd HVL.out k)
        have HOL := Lib.hid (ordK_len HVL.out k (by rw [HTL.out]; exact hk))
        go_wp2_with fail
        refine wp_scope_straight ?_
        go_wp2_with fail
        refine wp_label ?_
        go_wp2_with fail
        go_loopw [5, 23] (fun q i wr => ∃ j : Nat, j ≤ n ∧ i = .int .i64 j ∧ q = .slice A5 k c5 ∧ Hid (∀ t ∈ ts.take j, rdyB (ordK ts k) t = false) ∧ Hid (Below wo.heap.size wo wr)) (fun _ i _ => n - (intOf i).toNat)
        case atStart => exact ⟨0, Nat.zero_le _, rfl, rfl, fun t ht => by simp at ht, Below.refl _ _⟩
        case round =>
          obtain ⟨j, hj, rfl, rfl, hNo, hBi⟩ := hrel
          obtain ⟨wm, hwm⟩ : ∃ wm, wm = wr := ⟨_, rfl⟩
          subst hwm
          have hwi := hBi.out.size
          by_cases hjn : j < n
          · have HBw : Hid (Below w.heap.size w wm) := (HB1.out.trans (hBel.out.mono (by omega))).trans (hBi.out.mono (by omega))
            obtain ⟨b, off, t, rfl, hbB, ht, y0, y1, y2, y3⟩ := (H0.out.below HBw.out hB).tg hjn
            have HTO := Lib.hid ((HOK.out t (List.mem_of_getElem? ht)).below HBw.out hB)
            have hjz : (j : Int) < (n : Int) := by omega
            have HTT := Lib.hid ht
            have HTM := Lib.hid (List.mem_of_getElem? ht)
            have HTK := Lib.hid (take_snoc ht)
            have hdl : t.deps.length = t.dn := HTO.out.dlen
            have hdf : t.deps.length ≤ 20 := (HVL.out.at_ ht).few
            have hls : t.lab.size ≤ maxLen := HTO.out.ls
            obtain ⟨W2, hW2⟩ : ∃ W2, wm.alloc (.cells #[.string t.lab, .int .i64 t.kind, .slice t.dA t.dn t.dc, .slice t.vA t.vn t.vc] 35) = W2 := ⟨_, rfl⟩
            have HK2 : Hid (Bk W2 wm.heap.size 35 #[.string t.lab, .int .i64 t.kind, .slice t.dA t.dn t.dc, .slice t.vA t.vn t.vc]) := by rw [← hW2]; exact Bk.new wm _ _
            have zW2 : W2.heap.size = wm.heap.size + 1 := by rw [← hW2]; simp
            have HBo2 : Hid (Below wo.heap.size wo W2) := by rw [← hW2]; exact hBi.out.alloc hwi _
            have HM2 := Lib.hid (hM.out.below HBo2.out hwz)
            have HDS : Hid (Sl W2 B 1 t.dA t.dn (strs t.deps)) := by rw [← hW2]; exact HTO.out.d.alloc (by have := HBw.out.size; omega) _
            have HDZ := Lib.hid HTO.out.ds
            have hlk := HM2.out.look Tryz.underlying9 Tryz.underlying66 (hzz _) hls
            rw [pG_get] at hlk
            have x0 := HK2.out.cell 0; have x2 := HK2.out.cell 2
            simp at x0 x2
            rw [← hW2] at hlk x0 x2
            have HW2 := Lib.hid hW2
            obtain ⟨lab, kind, dA, dn, dc, deps, vA, vn, vc, vis⟩ := t
            simp only at y0 y1 y2 y3 hlk x0 x2 hdl hdf hls
            clear ht hW2
            cases hm : memB (ordK ts k) lab with
            | true =>
              have HN2 : Hid (∀ t ∈ ts.take (j + 1), rdyB (ordK ts k) t = false) := fun t ht => by
                rw [HTK.out] at ht
                rcases List.mem_append.1 ht with ht | ht
                · exact hNo.out t ht
                · rw [List.mem_singleton.1 ht]; unfold rdyB; rw [hm]; rfl
              rw [hm] at hlk
              clear hm hNo
              go_wp2_with fail
              rw [HW2.out]
              go_roundw
              case rel => exact ⟨j + 1, hjn, by go_num, rfl, HN2.out, HBo2.out⟩
              case measure => simp [intOf]; omega
            | false =>
              have HMF := Lib.hid hm
              rw [hm] at hlk
              clear hm
              go_wp2_with fail
              rw [HW2.out]
              go_loopw [34] (fun i wr => ∃ d : Nat, d ≤ dn ∧ i = .int .i64 d ∧ Hid (∀ x ∈ deps.take d, memB (ordK ts k) x = true) ∧ wr = W2) (fun i _ => dn - (intOf i).toNat)
              case atStart => exact ⟨0, Nat.zero_le _, rfl, fun x hx => by simp at hx, rfl⟩
              case round =>
                obtain ⟨d, hd, rfl, hAll, rfl⟩ := hrel
                by_cases hdn : d < dn
                · obtain ⟨db, doff, x, rfl, hdb, hx, z0⟩ := HDS.out.str_at hdn
                  have hxs : x.size ≤ maxLen := HDZ.out x (List.mem_of_getElem? hx)
                  have HDK := Lib.hid (take_snoc hx)
                  have HXM := Lib.hid (List.mem_of_getElem? hx)
                  have hlx := HM2.out.look Tryz.underlying9 Tryz.underlying66 (hzz _) hxs
                  rw [pG_get] at hlx
                  have hdz : (d : Int) < (dn : Int) := by omega
                  clear hx
                  cases hmx : memB (ordK ts k) x with
                  | true =>
                    have HA2 : Hid (∀ x ∈ deps.take (d + 1), memB (ordK ts k) x = true) := fun y hy => by
                      rw [HDK.out] at hy
                      rcases List.mem_append.1 hy with hy | hy
                      · exact hAll.out y hy
                      · rw [List.mem_singleton.1 hy]; exact hmx
                    rw [hmx] at hlx
                    clear hmx hAll
                    go_wp2_with fail
                    go_roundw
                    case rel => exact ⟨d + 1, hdn, by go_num, HA2.out, trivial⟩
                    case measure => simp [intOf]; omega
                  | false =>
                    have HN2 : Hid (∀ t ∈ ts.take (j + 1), rdyB (ordK ts k) t = false) := fun t ht => by
                      rw [HTK.out] at ht
                      rcases List.mem_append.1 ht with ht | ht
                      · exact hNo.out t ht
                      · rw [List.mem_singleton.1 ht]; unfold rdyB
                        have : deps.all (memB (ordK ts k)) = false := by
                          rw [List.all_eq_false]; exact ⟨x, HXM.out, by rw [hmx]; simp⟩
                        simp [this]
                    rw [hmx] at hlx
                    clear hmx hNo
                    go_wp2_with fail
                    go_roundw
                    case rel => exact ⟨j + 1, hjn, by go_num, rfl, HN2.out, HBo2.out⟩
                    case measure => simp [intOf]; omega
                · have hdz : ¬ (d : Int) < (dn : Int) := by omega
                  have hrd : rdyB (ordK ts k) ⟨lab, kind, dA, dn, dc, deps, vA, vn, vc, vis⟩ = true := by
                    unfold rdyB
                    have h1 := hAll.out
                    rw [List.take_of_length_le (by omega)] at h1
                    rw [HMF.out]
                    simp only [Bool.not_false, Bool.true_and, List.all_eq_true]
                    exact h1
                  have HST := Lib.hid (ordK_step (find_first hNo.out HTT.out hrd))
                  have x4 := HK2.out.cell 0
                  simp at x4
                  clear hrd hAll hNo
                  go_wp2_with (at_mapUpdate; refine halt_ ?_)
                  refine unhalt ?_
                  refine wpList_put_rm rfl _ _ _ 66 rfl 9 4 Tryz.underlying9 Tryz.underlying66 w1.heap.size k _ rfl HM2.out (by unfold maxLen; omega) lab hls _ rfl rfl ?_
                  intro w3 hM3 hg3
                  replace hM3 : Rm w3 Tryz.prog 9 w1.heap.size (k + 1) (upd (pG (ordK ts k)) lab (.bool true)) := hM3
                  rw [← pG_snoc] at hM3
                  have HM3 : Hid (Rm w3 Tryz.prog 9 w1.heap.size (k + 1) (pG (ordK ts (k + 1)))) := by show Rm _ _ _ _ _ _; rw [HST.out]; exact hM3
                  have HA3 := Lib.hid ((hA.out.below HBo2.out).grown hg3 (fun q e => by cases e; omega))
                  have HB3 : Hid (Below w1.heap.size w1 w3) := (hBel.out.trans (HBo2.out.mono (by omega))).grown hg3 (by omega) (fun q e => by cases e; omega)
                  have HK3 := Lib.hid (HK2.out.grown hg3 (by simp; omega))
                  have hz3 := hg3.size
                  have x3 := HK3.out.cell 0
                  simp at x3
                  clear hM3 hg3 x0 x2 hlk g0
                  go_wp2_with (at_builtin; refine halt_apx (.tmp 46) (.tmp 49) 33 rfl ?_)
                  refine unhalt ?_
                  refine wpList_append_apd (base := w1.heap.size + 1) (size := 1) _ rfl (.tmp 46) (.tmp 49) 33 rfl 9 i0 _ 16 Tryz.underlying33 Hi.out Hz0.out Hz1.out Hz2.out rfl (by decide) A5 k c5 (strs (ordK ts k)) rfl ?own_1 (w3.heap.size + 1) _ 1 _ [.string lab] rfl ?nw_1 (by simp [Value.oneCell']) ?m1_1 ?m2_1 ?m3_1 ?_
                  case own_1 => exact HA3.out.below ((Below.refl _ w3).alloc (Nat.le_refl _) _)
                  case nw_1 => exact ⟨rfl, fun _ => ⟨w3.heap.size, 0, rfl, Nat.lt_succ_self _, fun j u hu => by have := new_cell w3 9 lab j u hu; rwa [Addr.add_lit] at this⟩⟩
                  case m1_1 => unfold maxLen; omega
                  case m2_1 => omega
                  case m3_1 => simp; omega
                  intro A6 c6 w4 ho4 hb4 hn4 hm4 hok4
                  have HA4 : Hid (Apd w4 (w1.heap.size + 1) 9 1 A6 (k + 1) c6 (strs (ordK ts (k + 1)))) := by show Apd _ _ _ _ _ _ _ _; rw [HST.out, strs_sn]; exact ho4
                  have HM4 := Lib.hid ((HM3.out.alloc (.cells #[.string lab] 9)).below hb4 (by omega))
                  have HB4 : Hid (Below w1.heap.size w1 w4) := (HB3.out.alloc HB3.out.size _).trans (hb4.mono (by omega))
                  have hz4 := hb4.size
                  simp at hz4
                  clear ho4 hb4 hok4 x3 x4
                  go_wp2_with fail
                  simp only [Exit.noGoto]
                  go_wp2_with fail
                  go_roundw
                  case rel => exact ⟨k + 1, A6, c6, rfl, hlt, hn4, hm4, HA4.out, HM4.out, HB4.out, by omega⟩
                  case measure => simp [lenV]; omega
          · exfalso
            obtain ⟨u, hu⟩ := ord_next HVL.out (l := ordK ts k) (by rw [HOL.out, HTL.out]; exact hlt)
            have h1 := hNo.out u (by rw [List.take_of_length_le (by rw [HTL.out]; omega)]; exact List.mem_of_find?_eq_some hu)
            rw [List.find?_some hu] at h1
            cases h1
      · have hlz : ¬ (k : Int) < (n : Int) := by omega
        obtain rfl : k = n := by omega
        go_wp2_with fail
        go_ret2
        exact ⟨A5, k, c5, ordK ts k, 0, rfl, hA.out.sl, hkc, hcm5, .inr ⟨HVL.out, by rw [HTL.out], rfl⟩, HB1.out.trans (hBel.out.mono (by omega))⟩
end Go.Proofs.YtddlohbhchjjhaaGreatDoor

namespace Go.Proofs.YtddlohbhchjjhaaGreatDoor
open Go.RowKit Go.Shelf
attribute [local go_sem] Oper.semAt_some

theorem elW_step {v : ByteArray → Bool} {x : Wd} {ws : List Wd} (h : v x.1 = true) : elW v (x :: ws) = (x.1 :: (elW v ws).1, (elW v ws).2) := by simp only [elW]; rw [if_pos h]
theorem elW_stop {v : ByteArray → Bool} {ws : List Wd} (h : v (nxtW ws) = false) : elW v ws = ([], ws) := by
  cases ws with
  | nil => rfl
  | cons x ws => simp only [elW]; exact if_neg (by simp only [nxtW] at h; rw [h]; decide)
theorem elW_sub (v : ByteArray → Bool) : ∀ ws : List Wd, (∀ s ∈ (elW v ws).1, ∃ x ∈ ws, x.1 = s) ∧ (∀ x ∈ (elW v ws).2, x ∈ ws) ∧ (elW v ws).2.length ≤ ws.length
  | [] => ⟨(fun s h => by cases h), (fun s h => by cases h), Nat.le_refl _⟩
  | x :: ws => by
    simp only [elW]
    have ih := elW_sub v ws
    split
    · refine ⟨fun s hs => ?_, fun y hy => List.mem_cons_of_mem _ (ih.2.1 y hy), by simp; omega⟩
      rcases List.mem_cons.1 hs with rfl | hs
      · exact ⟨x, by simp, rfl⟩
      · obtain ⟨y, hy, e⟩ := ih.1 s hs
        exact ⟨y, by simp [hy], e⟩
    · exact ⟨(fun s h => by cases h), fun y hy => hy, Nat.le_refl _⟩
def ElEnd (rb : Nat) (t : ByteArray) (v : ByteArray → Bool) (ws : List Wd) (r : Tg) (w : World) (e : Ending) (w' : World) : Prop :=
  ∃ A1 n1 c1, e = .returned (.tuple #[.slice A1 n1 c1, .bool (optW t v ws).1]) ∧ w'.ownsRow (rb + 1) 9 1 (.slice A1 n1 c1) n1 (strs (optW t v ws).2.1) ∧ ∃ A n c, Rdr w' rb A n c (optW t v ws).2.2 r ∧ BelowX rb w w'
theorem nxt_size {ws : List Wd} (h : ∀ x ∈ ws, x.1.size ≤ maxLen) : (nxtW ws).size ≤ maxLen := by
  cases ws with
  | nil => exact Nat.zero_le _
  | cons x ws => exact h x (by simp)
theorem own_more {W : World} {base base' : Nat} {e : TypeId} {size : Nat} {v : Value} {k : Nat} {xs : List Value} (h : W.ownsRow base e size v k xs) (hb : base' ≤ base) : W.ownsRow base' e size v k xs := by
  refine ⟨h.1, ?_⟩
  rcases h.2 with hn | ⟨g, cap, cur, hv, hbg, rest⟩
  · exact .inl hn
  · exact .inr ⟨g, cap, cur, hv, Nat.le_trans hb hbg, rest⟩

theorem frlB_none : frlB ⟨#[]⟩ = false := by decide
set_option maxRecDepth 100000 in
set_option maxHeartbeats 2000000 in
theorem elements_frlB (rb : Nat) (A : Option Addr) (n c : Nat) (ws : List Wd) (r : Tg) (t : ByteArray) (w : World) (h : Rdr w rb A n c ws r) (hs : ∀ x ∈ ws, x.1.size ≤ maxLen) (ht : t ≠ ⟨#[]⟩) (hw : ws.length ≤ 1000000) :
    Calls Tryz.prog 190 #[.pointer (some ⟨rb, 0, none⟩), .string t, .func (.func 165) #[] #[]] w (ElEnd rb t frlB ws r w) := by
  have hrb := h.blk.lt
  have HS := Lib.hid (skip_any rb A n c ws r t w h ht)
  have HWS := Lib.hid hs
  clear h hs
  go_enter Tryz.func190, Tryz.ntmps190
  go_wp2_with (go_at_call 188; refine HS.out.mono ?_; rintro e w1 ⟨rfl, A1, n1, q1, hr, hb⟩; refine halt_ ?_)
  refine unhalt ?_
  have HR := Lib.hid hr; have HB := Lib.hid hb
  have hz1 := hb.size
  clear hr hb HS
  by_cases hx : nxtW ws = t
  · have hd : decide (nxtW ws = t) = true := by simp [hx]
    have HO : Hid (optW t frlB ws = (decide (0 < (elW frlB ws.tail).1.length), elW frlB ws.tail)) := if_pos hx
    have HR2 : Hid (Rdr w1 rb A1 n1 q1 ws.tail r) := by have := HR.out; rw [if_pos hx] at this; exact this
    have HWT : Hid (∀ x ∈ ws.tail, x.1.size ≤ maxLen) := fun x hx => HWS.out x (List.mem_of_mem_tail hx)
    have hwt : ws.tail.length ≤ 1000000 := by simp; omega
    clear hx HR
    rw [hd]
    clear hd
    go_wp2
    go_loopw [8] (fun q wr => ∃ (Al : Option Addr) (m cl : Nat) (pre : List ByteArray) (vs : List Wd) (An : Option Addr) (nn cn : Nat), q = .slice Al m cl ∧ m = pre.length ∧ m + vs.length ≤ 1000000 ∧ Hid (wr.ownsRow (w1.heap.size) 9 1 (.slice Al m cl) m (strs pre)) ∧ Hid (Rdr wr rb An nn cn vs r) ∧ Hid (elW frlB ws.tail = (pre ++ (elW frlB vs).1, (elW frlB vs).2)) ∧ Hid (∀ x ∈ vs, x.1.size ≤ maxLen) ∧ Hid (BelowX rb w1 wr)) (fun q _ => 1000000 - lenV q)
    case atStart => exact ⟨none, 0, 0, [], ws.tail, A1, n1, q1, rfl, rfl, by simp; omega, World.ownsRow_nil _ _ _ _, HR2.out, rfl, HWT.out, BelowX.refl _ _ (by omega)⟩
    case round =>
      obtain ⟨Al, m, cl, pre, vs, An, nn, cn, rfl, hm, hmv, hO, hRd, hE, hVS, hBX⟩ := hrel
      have HN := Lib.hid (next_any rb An nn cn vs r wr hRd.out)
      have hvs := nxt_size hVS.out
      have hzr := hBX.out.size
      have HM := Lib.hid hm
      clear hm
      obtain ⟨nx, hnx⟩ : ∃ nx, nxtW vs = nx := ⟨_, rfl⟩
      have HNX := Lib.hid hnx
      rw [hnx] at HN hvs
      clear hnx
      have HV := Lib.hid (freeLabel_any nx wr hvs)
      cases hv : frlB nx with
      | false =>
        have HL : Hid (elW frlB ws.tail = (pre, vs)) := by
          show _ = _
          rw [hE.out, elW_stop (by rw [HNX.out]; exact hv)]; simp
        rw [hv] at HV
        clear hv
        go_wp2_with (go_at_call 189; refine HN.out.mono ?_; rintro e w2 ⟨rfl, rfl⟩; refine halt_ ?_)
        refine unhalt ?_
        go_wp2_with (go_at_call 165; refine HV.out.mono ?_; rintro e w3 ⟨rfl, hb3⟩)
        go_ret2
        have hbx := BelowX.of_below (rb := rb) hb3 (by omega)
        refine ⟨Al, m, cl, ?_, ?_, An, nn, cn, ?_, HB.out.trans (hBX.out.trans hbx)⟩
        · rw [HO.out, HL.out]
          congr 3
          simp [HM.out]
        · rw [HO.out, HL.out]
          exact own_more (own_keep hO.out (fun k hk => by
            obtain ⟨h1, cur, h2⟩ := own_row hO.out hk
            exact hb3.block k (Array.getElem?_eq_some_iff.1 h2).1)) (by omega)
        · rw [HO.out, HL.out]
          exact hRd.out.keepw hbx (hRd.out.blk.below hb3 hRd.out.blk.lt)
      | true =>
        rw [hv] at HV
        cases vs with
        | nil => exact absurd hv (by rw [← HNX.out, nxtW, frlB_none]; decide)
        | cons x vs =>
        obtain ⟨xt, xa⟩ := x
        have ex : nx = xt := HNX.out.symm
        subst ex
        have HL : Hid (elW frlB ws.tail = (pre ++ [nx] ++ (elW frlB vs).1, (elW frlB vs).2)) := by
          show _ = _
          rw [hE.out, elW_step (x := (nx, xa)) hv]; simp
        clear hv HNX
        simp only [List.length_cons] at hmv
        go_wp2_with (go_at_call 189; refine HN.out.mono ?_; rintro e w2 ⟨rfl, rfl⟩; refine halt_ ?_)
        refine unhalt ?_
        go_wp2_with (go_at_call 165; refine HV.out.mono ?_; rintro e w3 ⟨rfl, hb3⟩; refine halt_ ?_)
        refine unhalt ?_
        have hbx := BelowX.of_below (rb := rb) hb3 (by omega)
        have HBX3 : Hid (BelowX rb w1 w3) := hBX.out.trans hbx
        have hR3 : Rdr w3 rb An nn cn ((nx, xa) :: vs) r := hRd.out.keepw hbx (hRd.out.blk.below hb3 hRd.out.blk.lt)
        have HO3 : Hid (w3.ownsRow w1.heap.size 9 1 (.slice Al m cl) m (strs pre)) := own_keep hO.out (fun k hk => by
            obtain ⟨h1, cur, h2⟩ := own_row hO.out hk
            exact hb3.block k (Array.getElem?_eq_some_iff.1 h2).1)
        have HN3 := Lib.hid (next_any rb An nn cn ((nx, xa) :: vs) r w3 hR3)
        have HR3 := Lib.hid hR3
        have hz3 := hb3.size
        clear hbx hb3 hR3 HN HV hRd hO hBX
        obtain ⟨i0, hi, hz0, hz1', hz2'⟩ := info_parts infoStr
        have Hi := Lib.hid hi; have Hz0 := Lib.hid hz0; have Hz1 := Lib.hid hz1'; have Hz2 := Lib.hid hz2'
        clear hi hz0 hz1' hz2'
        go_wp2_with (first
          | (go_at_call 189; refine HN3.out.mono ?_; rintro e w4 ⟨rfl, rfl⟩; simp only [nxtW])
          | (at_builtin; refine halt_apx (.tmp 17) (.tmp 20) 33 rfl ?_))
        refine unhalt ?_
        refine wpList_append_sl (base := w1.heap.size) (size := 1) _ rfl (.tmp 17) (.tmp 20) 33 rfl 9 i0 _ 16 Tryz.underlying33 Hi.out Hz0.out Hz1.out Hz2.out rfl (by decide) (.slice Al m cl) m (strs pre) rfl ?own (w3.heap.size + 1) _ 1 _ [.string nx] rfl ?nw (by simp [Value.oneCell']) ?l1 ?l2 ?l3 ?_
        case own => exact HO3.out.kept (World.grownBy_alloc w3 _ none) (by cases hv : (Value.slice Al m cl).ownBlock with | none => exact .inl rfl | some k => exact .inr (by simp))
        case nw => exact ⟨rfl, fun _ => ⟨w3.heap.size, 0, rfl, Nat.lt_succ_self _, fun j u hu => by have := new_cell w3 9 nx j u hu; rwa [Addr.add_lit] at this⟩⟩
        case l1 => unfold maxLen; omega
        case l2 => omega
        case l3 => simp; omega
        intro A4 q4 w4 ho4 hg4 hc41 hc42
        have HO4 : Hid (w4.ownsRow w1.heap.size 9 1 (.slice A4 (m + 1) q4) (m + 1) (strs (pre ++ [nx]))) := by
          show World.ownsRow _ _ _ _ _ _ _
          rw [strs_sn]; exact ho4
        have hz4 : w3.heap.size + 1 ≤ w4.heap.size := by have := hg4.size; simp at this; omega
        have hB4 : Below w1.heap.size w3 w4 := (((Below.refl _ w3).alloc (Nat.le_refl _) _).mono (by omega)).grown hg4 (by simp; omega) (fun k hk => by have := (own_row HO3.out hk).1; omega)
        have HXX : Hid (∀ k, k < w3.heap.size → (Value.slice Al m cl).ownBlock ≠ some k → w4.heap[k]? = w3.heap[k]?) := fun k hk hne => (hg4.block k (by simp; omega) (fun e => hne e.symm)).trans (Below.heap_alloc w3 _ _ hk)
        have hR4 : Rdr w4 rb An nn cn ((nx, xa) :: vs) r := ⟨HR3.out.blk.below hB4 (by omega), HR3.out.sl.below hB4 (by omega), HR3.out.le, HR3.out.max⟩
        have d0 := hR4.blk.cell 0; have g0 := hR4.blk.free 0
        simp only [List.getElem?_toArray, List.getElem?_cons_zero] at d0
        obtain ⟨Ac, hsl, hcut⟩ := hR4.cut
        obtain ⟨w5, hw5⟩ : ∃ w5, w4.setCell ⟨rb, 0, none⟩ (.slice Ac (nn - 1) (cn - 1)) = w5 := ⟨_, rfl⟩
        have HB45 : Hid (BelowX rb w4 w5) := by rw [← hw5]; exact (BelowX.refl rb w4 (by omega)).setCell _ _
        have HR5 := Lib.hid (hcut w5 HB45.out hw5.symm)
        have HBX5 : Hid (BelowX rb w1 w5) := by
          refine BelowX.trans ?_ HB45.out
          refine ⟨HBX3.out.below.trans (hB4.mono (by omega)), by have := HBX3.out.size; omega, fun k h1 h2 => ?_⟩
          exact (hB4.block k h2).trans (HBX3.out.blk k h1 h2)
        have HO5 : Hid (w5.ownsRow w1.heap.size 9 1 (.slice A4 (m + 1) q4) (m + 1) (strs (pre ++ [nx]))) := own_keep HO4.out (fun k hk => by
            obtain ⟨h1, cur, h2⟩ := own_row HO4.out hk
            exact HB45.out.blk k (by omega) (Array.getElem?_eq_some_iff.1 h2).1)
        clear hcut hR4 ho4 hg4 hB4 HN3
        go_wp2_with fail
        go_roundw
        case rel => exact ⟨A4, m + 1, q4, pre ++ [nx], vs, Ac, nn - 1, cn - 1, rfl, by simp [HM.out], by omega, HO5.out, HR5.out, HL.out, fun y hy => hVS.out y (by simp [hy]), HBX5.out⟩
        case measure => simp [lenV]; omega
  · have hd : decide (nxtW ws = t) = false := by simp [hx]
    have HO : Hid (optW t frlB ws = (true, [], ws)) := if_neg hx
    have HR2 : Hid (Rdr w1 rb A1 n1 q1 ws r) := by have := HR.out; rw [if_neg hx] at this; exact this
    clear hx HR
    go_wp2
    go_ret2
    rw [ElEnd, HO.out]
    exact ⟨none, 0, 0, rfl, World.ownsRow_nil _ _ _ _, A1, n1, q1, HR2.out, HB.out⟩

theorem viewB_none : viewB ⟨#[]⟩ = false := by decide
set_option maxRecDepth 100000 in
set_option maxHeartbeats 2000000 in
theorem elements_viewB (rb : Nat) (A : Option Addr) (n c : Nat) (ws : List Wd) (r : Tg) (t : ByteArray) (w : World) (h : Rdr w rb A n c ws r) (hs : ∀ x ∈ ws, x.1.size ≤ maxLen) (ht : t ≠ ⟨#[]⟩) (hw : ws.length ≤ 1000000) :
    Calls Tryz.prog 190 #[.pointer (some ⟨rb, 0, none⟩), .string t, .func (.func 166) #[] #[]] w (ElEnd rb t viewB ws r w) := by
  have hrb := h.blk.lt
  have HS := Lib.hid (skip_any rb A n c ws r t w h ht)
  have HWS := Lib.hid hs
  clear h hs
  go_enter Tryz.func190, Tryz.ntmps190
  go_wp2_with (go_at_call 188; refine HS.out.mono ?_; rintro e w1 ⟨rfl, A1, n1, q1, hr, hb⟩; refine halt_ ?_)
  refine unhalt ?_
  have HR := Lib.hid hr; have HB := Lib.hid hb
  have hz1 := hb.size
  clear hr hb HS
  by_cases hx : nxtW ws = t
  · have hd : decide (nxtW ws = t) = true := by simp [hx]
    have HO : Hid (optW t viewB ws = (decide (0 < (elW viewB ws.tail).1.length), elW viewB ws.tail)) := if_pos hx
    have HR2 : Hid (Rdr w1 rb A1 n1 q1 ws.tail r) := by have := HR.out; rw [if_pos hx] at this; exact this
    have HWT : Hid (∀ x ∈ ws.tail, x.1.size ≤ maxLen) := fun x hx => HWS.out x (List.mem_of_mem_tail hx)
    have hwt : ws.tail.length ≤ 1000000 := by simp; omega
    clear hx HR
    rw [hd]
    clear hd
    go_wp2
    go_loopw [8] (fun q wr => ∃ (Al : Option Addr) (m cl : Nat) (pre : List ByteArray) (vs : List Wd) (An : Option Addr) (nn cn : Nat), q = .slice Al m cl ∧ m = pre.length ∧ m + vs.length ≤ 1000000 ∧ Hid (wr.ownsRow (w1.heap.size) 9 1 (.slice Al m cl) m (strs pre)) ∧ Hid (Rdr wr rb An nn cn vs r) ∧ Hid (elW viewB ws.tail = (pre ++ (elW viewB vs).1, (elW viewB vs).2)) ∧ Hid (∀ x ∈ vs, x.1.size ≤ maxLen) ∧ Hid (BelowX rb w1 wr)) (fun q _ => 1000000 - lenV q)
    case atStart => exact ⟨none, 0, 0, [], ws.tail, A1, n1, q1, rfl, rfl, by simp; omega, World.ownsRow_nil _ _ _ _, HR2.out, rfl, HWT.out, BelowX.refl _ _ (by omega)⟩
    case round =>
      obtain ⟨Al, m, cl, pre, vs, An, nn, cn, rfl, hm, hmv, hO, hRd, hE, hVS, hBX⟩ := hrel
      have HN := Lib.hid (next_any rb An nn cn vs r wr hRd.out)
      have hvs := nxt_size hVS.out
      have hzr := hBX.out.size
      have HM := Lib.hid hm
      clear hm
      obtain ⟨nx, hnx⟩ : ∃ nx, nxtW vs = nx := ⟨_, rfl⟩
      have HNX := Lib.hid hnx
      rw [hnx] at HN hvs
      clear hnx
      have HV := Lib.hid (viewer_any nx wr hvs)
      cases hv : viewB nx with
      | false =>
        have HL : Hid (elW viewB ws.tail = (pre, vs)) := by
          show _ = _
          rw [hE.out, elW_stop (by rw [HNX.out]; exact hv)]; simp
        rw [hv] at HV
        clear hv
        go_wp2_with (go_at_call 189; refine HN.out.mono ?_; rintro e w2 ⟨rfl, rfl⟩; refine halt_ ?_)
        refine unhalt ?_
        go_wp2_with (go_at_call 166; refine HV.out.mono ?_; rintro e w3 ⟨rfl, hb3⟩)
        go_ret2
        have hbx := BelowX.of_below (rb := rb) hb3 (by omega)
        refine ⟨Al, m, cl, ?_, ?_, An, nn, cn, ?_, HB.out.trans (hBX.out.trans hbx)⟩
        · rw [HO.out, HL.out]
          congr 3
          simp [HM.out]
        · rw [HO.out, HL.out]
          exact own_more (own_keep hO.out (fun k hk => by
            obtain ⟨h1, cur, h2⟩ := own_row hO.out hk
            exact hb3.block k (Array.getElem?_eq_some_iff.1 h2).1)) (by omega)
        · rw [HO.out, HL.out]
          exact hRd.out.keepw hbx (hRd.out.blk.below hb3 hRd.out.blk.lt)
      | true =>
        rw [hv] at HV
        cases vs with
        | nil => exact absurd hv (by rw [← HNX.out, nxtW, viewB_none]; decide)
        | cons x vs =>
        obtain ⟨xt, xa⟩ := x
        have ex : nx = xt := HNX.out.symm
        subst ex
        have HL : Hid (elW viewB ws.tail = (pre ++ [nx] ++ (elW viewB vs).1, (elW viewB vs).2)) := by
          show _ = _
          rw [hE.out, elW_step (x := (nx, xa)) hv]; simp
        clear hv HNX
        simp only [List.length_cons] at hmv
        go_wp2_with (go_at_call 189; refine HN.out.mono ?_; rintro e w2 ⟨rfl, rfl⟩; refine halt_ ?_)
        refine unhalt ?_
        go_wp2_with (go_at_call 166; refine HV.out.mono ?_; rintro e w3 ⟨rfl, hb3⟩; refine halt_ ?_)
        refine unhalt ?_
        have hbx := BelowX.of_below (rb := rb) hb3 (by omega)
        have HBX3 : Hid (BelowX rb w1 w3) := hBX.out.trans hbx
        have hR3 : Rdr w3 rb An nn cn ((nx, xa) :: vs) r := hRd.out.keepw hbx (hRd.out.blk.below hb3 hRd.out.blk.lt)
        have HO3 : Hid (w3.ownsRow w1.heap.size 9 1 (.slice Al m cl) m (strs pre)) := own_keep hO.out (fun k hk => by
            obtain ⟨h1, cur, h2⟩ := own_row hO.out hk
            exact hb3.block k (Array.getElem?_eq_some_iff.1 h2).1)
        have HN3 := Lib.hid (next_any rb An nn cn ((nx, xa) :: vs) r w3 hR3)
        have HR3 := Lib.hid hR3
        have hz3 := hb3.size
        clear hbx hb3 hR3 HN HV hRd hO hBX
        obtain ⟨i0, hi, hz0, hz1', hz2'⟩ := info_parts infoStr
        have Hi := Lib.hid hi; have Hz0 := Lib.hid hz0; have Hz1 := Lib.hid hz1'; have Hz2 := Lib.hid hz2'
        clear hi hz0 hz1' hz2'
        go_wp2_with (first
          | (go_at_call 189; refine HN3.out.mono ?_; rintro e w4 ⟨rfl, rfl⟩; simp only [nxtW])
          | (at_builtin; refine halt_apx (.tmp 17) (.tmp 20) 33 rfl ?_))
        refine unhalt ?_
        refine wpList_append_sl (base := w1.heap.size) (size := 1) _ rfl (.tmp 17) (.tmp 20) 33 rfl 9 i0 _ 16 Tryz.underlying33 Hi.out Hz0.out Hz1.out Hz2.out rfl (by decide) (.slice Al m cl) m (strs pre) rfl ?own (w3.heap.size + 1) _ 1 _ [.string nx] rfl ?nw (by simp [Value.oneCell']) ?l1 ?l2 ?l3 ?_
        case own => exact HO3.out.kept (World.grownBy_alloc w3 _ none) (by cases hv : (Value.slice Al m cl).ownBlock with | none => exact .inl rfl | some k => exact .inr (by simp))
        case nw => exact ⟨rfl, fun _ => ⟨w3.heap.size, 0, rfl, Nat.lt_succ_self _, fun j u hu => by have := new_cell w3 9 nx j u hu; rwa [Addr.add_lit] at this⟩⟩
        case l1 => unfold maxLen; omega
        case l2 => omega
        case l3 => simp; omega
        intro A4 q4 w4 ho4 hg4 hc41 hc42
        have HO4 : Hid (w4.ownsRow w1.heap.size 9 1 (.slice A4 (m + 1) q4) (m + 1) (strs (pre ++ [nx]))) := by
          show World.ownsRow _ _ _ _ _ _ _
          rw [strs_sn]; exact ho4
        have hz4 : w3.heap.size + 1 ≤ w4.heap.size := by have := hg4.size; simp at this; omega
        have hB4 : Below w1.heap.size w3 w4 := (((Below.refl _ w3).alloc (Nat.le_refl _) _).mono (by omega)).grown hg4 (by simp; omega) (fun k hk => by have := (own_row HO3.out hk).1; omega)
        have HXX : Hid (∀ k, k < w3.heap.size → (Value.slice Al m cl).ownBlock ≠ some k → w4.heap[k]? = w3.heap[k]?) := fun k hk hne => (hg4.block k (by simp; omega) (fun e => hne e.symm)).trans (Below.heap_alloc w3 _ _ hk)
        have hR4 : Rdr w4 rb An nn cn ((nx, xa) :: vs) r := ⟨HR3.out.blk.below hB4 (by omega), HR3.out.sl.below hB4 (by omega), HR3.out.le, HR3.out.max⟩
        have d0 := hR4.blk.cell 0; have g0 := hR4.blk.free 0
        simp only [List.getElem?_toArray, List.getElem?_cons_zero] at d0
        obtain ⟨Ac, hsl, hcut⟩ := hR4.cut
        obtain ⟨w5, hw5⟩ : ∃ w5, w4.setCell ⟨rb, 0, none⟩ (.slice Ac (nn - 1) (cn - 1)) = w5 := ⟨_, rfl⟩
        have HB45 : Hid (BelowX rb w4 w5) := by rw [← hw5]; exact (BelowX.refl rb w4 (by omega)).setCell _ _
        have HR5 := Lib.hid (hcut w5 HB45.out hw5.symm)
        have HBX5 : Hid (BelowX rb w1 w5) := by
          refine BelowX.trans ?_ HB45.out
          refine ⟨HBX3.out.below.trans (hB4.mono (by omega)), by have := HBX3.out.size; omega, fun k h1 h2 => ?_⟩
          exact (hB4.block k h2).trans (HBX3.out.blk k h1 h2)
        have HO5 : Hid (w5.ownsRow w1.heap.size 9 1 (.slice A4 (m + 1) q4) (m + 1) (strs (pre ++ [nx]))) := own_keep HO4.out (fun k hk => by
            obtain ⟨h1, cur, h2⟩ := own_row HO4.out hk
            exact HB45.out.blk k (by omega) (Array.getElem?_eq_some_iff.1 h2).1)
        clear hcut hR4 ho4 hg4 hB4 HN3
        go_wp2_with fail
        go_roundw
        case rel => exact ⟨A4, m + 1, q4, pre ++ [nx], vs, Ac, nn - 1, cn - 1, rfl, by simp [HM.out], by omega, HO5.out, HR5.out, HL.out, fun y hy => hVS.out y (by simp [hy]), HBX5.out⟩
        case measure => simp [lenV]; omega
  · have hd : decide (nxtW ws = t) = false := by simp [hx]
    have HO : Hid (optW t viewB ws = (true, [], ws)) := if_neg hx
    have HR2 : Hid (Rdr w1 rb A1 n1 q1 ws r) := by have := HR.out; rw [if_neg hx] at this; exact this
    clear hx HR
    go_wp2
    go_ret2
    rw [ElEnd, HO.out]
    exact ⟨none, 0, 0, rfl, World.ownsRow_nil _ _ _ _, A1, n1, q1, HR2.out, HB.out⟩
set_option maxHeartbeats 1000000 in
theorem deps_m (rb : Nat) (A : Option Addr) (n c : Nat) (ws : List Wd) (r : Tg) (w : World) (h : Rdr w rb A n c ws r) (hx : TgX w rb r) (hs : ∀ x ∈ ws, x.1.size ≤ maxLen) (hw : ws.length ≤ 1000000) :
    Calls Tryz.prog 139 #[.pointer (some ⟨rb, 0, none⟩)] w (PrtEnd rb (partW 2 ws (ct r)) w) := by
  have hrb := h.blk.lt
  have HE := Lib.hid (elements_frlB rb A n c ws r depsW w h hs (by decide) hw)
  have HX := Lib.hid hx; have HWS := Lib.hid hs
  clear h hx hs
  go_enter Tryz.func139, Tryz.ntmps139
  go_wp2_with (go_at_call 190; refine HE.out.mono ?_; rintro e w1 ⟨A1, n1, c1, rfl, ho, A2, n2, c2, hr, hb⟩; refine halt_ ?_)
  refine unhalt ?_
  have hrb1 := hr.blk.lt
  have d3 := hr.blk.cell 3; have g3 := hr.blk.free 3
  simp only [List.getElem?_toArray, List.getElem?_cons_zero, List.getElem?_cons_succ] at d3
  obtain ⟨W2, hW2⟩ : ∃ W2, w1.setCell ⟨rb, 3, none⟩ (.slice A1 n1 c1) = W2 := ⟨_, rfl⟩
  have hB2 : BelowX rb w1 W2 := by rw [← hW2]; exact (BelowX.refl rb w1 (by omega)).setCell _ _
  have HO2 : Hid (W2.ownsRow (rb + 1) 9 1 (.slice A1 n1 c1) n1 (strs (optW depsW frlB ws).2.1)) := own_keep ho (fun k hk => by
    obtain ⟨h1, cur, h2⟩ := own_row ho hk
    exact hB2.blk k (by omega) (Array.getElem?_eq_some_iff.1 h2).1)
  have HR2 : Hid (Rdr W2 rb A2 n2 c2 (optW depsW frlB ws).2.2 { r with dA := A1, dn := n1, dc := c1, deps := (optW depsW frlB ws).2.1 }) := hr.keepw hB2 (by
    rw [← hW2]
    have := hr.blk.set 3 (.slice A1 n1 c1)
    simpa using this)
  have HSZ : Hid (∀ s ∈ (optW depsW frlB ws).2.1, s.size ≤ maxLen) := fun s hs' => by
    unfold optW at hs'
    split at hs'
    · obtain ⟨x, hx, e⟩ := (elW_sub frlB ws.tail).1 s hs'
      rw [← e]; exact HWS.out x (List.mem_of_mem_tail hx)
    · cases hs'
  have HX2 := HX.out.step (hb.trans hB2)
  have HXX : Hid (TgX W2 rb { r with dA := A1, dn := n1, dc := c1, deps := (optW depsW frlB ws).2.1 }) := ⟨HO2.out, HX2.v, HX2.ls, HSZ.out, HX2.vs⟩
  have HB2 := Lib.hid (hb.trans hB2)
  clear ho hr hb hB2 HE
  go_wp2_with fail
  go_ret
  exact ⟨rfl, A2, n2, c2, _, HR2.out, rfl, HXX.out, HB2.out⟩
set_option maxHeartbeats 1000000 in
theorem visible_m (rb : Nat) (A : Option Addr) (n c : Nat) (ws : List Wd) (r : Tg) (w : World) (h : Rdr w rb A n c ws r) (hx : TgX w rb r) (hs : ∀ x ∈ ws, x.1.size ≤ maxLen) (hw : ws.length ≤ 1000000) :
    Calls Tryz.prog 140 #[.pointer (some ⟨rb, 0, none⟩)] w (PrtEnd rb (partW 3 ws (ct r)) w) := by
  have hrb := h.blk.lt
  have HE := Lib.hid (elements_viewB rb A n c ws r visibleW w h hs (by decide) hw)
  have HX := Lib.hid hx; have HWS := Lib.hid hs
  clear h hx hs
  go_enter Tryz.func140, Tryz.ntmps140
  go_wp2_with (go_at_call 190; refine HE.out.mono ?_; rintro e w1 ⟨A1, n1, c1, rfl, ho, A2, n2, c2, hr, hb⟩; refine halt_ ?_)
  refine unhalt ?_
  have hrb1 := hr.blk.lt
  have d3 := hr.blk.cell 4; have g3 := hr.blk.free 4
  simp only [List.getElem?_toArray, List.getElem?_cons_zero, List.getElem?_cons_succ] at d3
  obtain ⟨W2, hW2⟩ : ∃ W2, w1.setCell ⟨rb, 4, none⟩ (.slice A1 n1 c1) = W2 := ⟨_, rfl⟩
  have hB2 : BelowX rb w1 W2 := by rw [← hW2]; exact (BelowX.refl rb w1 (by omega)).setCell _ _
  have HO2 : Hid (W2.ownsRow (rb + 1) 9 1 (.slice A1 n1 c1) n1 (strs (optW visibleW viewB ws).2.1)) := own_keep ho (fun k hk => by
    obtain ⟨h1, cur, h2⟩ := own_row ho hk
    exact hB2.blk k (by omega) (Array.getElem?_eq_some_iff.1 h2).1)
  have HR2 : Hid (Rdr W2 rb A2 n2 c2 (optW visibleW viewB ws).2.2 { r with vA := A1, vn := n1, vc := c1, vis := (optW visibleW viewB ws).2.1 }) := hr.keepw hB2 (by
    rw [← hW2]
    have := hr.blk.set 4 (.slice A1 n1 c1)
    simpa using this)
  have HSZ : Hid (∀ s ∈ (optW visibleW viewB ws).2.1, s.size ≤ maxLen) := fun s hs' => by
    unfold optW at hs'
    split at hs'
    · obtain ⟨x, hx, e⟩ := (elW_sub viewB ws.tail).1 s hs'
      rw [← e]; exact HWS.out x (List.mem_of_mem_tail hx)
    · cases hs'
  have HX2 := HX.out.step (hb.trans hB2)
  have HXX : Hid (TgX W2 rb { r with vA := A1, vn := n1, vc := c1, vis := (optW visibleW viewB ws).2.1 }) := ⟨HX2.d, HO2.out, HX2.ls, HX2.ds, HSZ.out⟩
  have HB2 := Lib.hid (hb.trans hB2)
  clear ho hr hb hB2 HE
  go_wp2_with fail
  go_ret
  exact ⟨rfl, A2, n2, c2, _, HR2.out, rfl, HXX.out, HB2.out⟩
end Go.Proofs.YtddlohbhchjjhaaGreatDoor

namespace Go.Proofs.YtddlohbhchjjhaaGreatDoor
open Go.RowKit Go.Shelf

def ctZ : Ct := (0, ⟨#[]⟩, [], [])
def stW : Nat → List Wd → List Wd × Ct
  | 0, ws => (ws, ctZ)
  | k + 1, ws => (partW k (stW k ws).1 (stW k ws).2).2
def okW (k : Nat) (ws : List Wd) : Bool := (partW k (stW k ws).1 (stW k ws).2).1
inductive Prs : List Wd → Sum (List Ct) (List Wd) → Prop
  | done : Prs [] (.inl [])
  | fail {ws : List Wd} {k : Nat} : ws ≠ [] → k < 5 → (∀ j < k, okW j ws = true) → okW k ws = false → Prs ws (.inr (stW (k + 1) ws).1)
  | all {ws : List Wd} {cs : List Ct} : ws ≠ [] → (∀ j < 5, okW j ws = true) → Prs (stW 5 ws).1 (.inl cs) → Prs ws (.inl ((stW 5 ws).2 :: cs))
  | bad {ws vs : List Wd} : ws ≠ [] → (∀ j < 5, okW j ws = true) → Prs (stW 5 ws).1 (.inr vs) → Prs ws (.inr vs)
theorem Prs.uniq {ws : List Wd} {o p : Sum (List Ct) (List Wd)} (h : Prs ws o) : Prs ws p → o = p := by
  have clash : ∀ {ws : List Wd} {k : Nat}, k < 5 → okW k ws = false → (∀ j < 5, okW j ws = true) → False := fun hk h1 h2 => by rw [h2 _ hk] at h1; cases h1
  induction h generalizing p with
  | done => intro g; cases g with
    | done => rfl
    | fail h _ _ _ => exact absurd rfl h
    | all h _ _ => exact absurd rfl h
    | bad h _ _ => exact absurd rfl h
  | @fail ws k h0 h1 h2 h3 => intro g; cases g with
    | done => exact absurd rfl h0
    | @fail _ l _ g1 g2 g3 =>
      rcases Nat.lt_trichotomy k l with e | e | e
      · rw [g2 k e] at h3; cases h3
      · subst e; rfl
      · rw [h2 l e] at g3; cases g3
    | all _ g1 _ => exact (clash h1 h3 g1).elim
    | bad _ g1 _ => exact (clash h1 h3 g1).elim
  | all h0 h1 _ ih => intro g; cases g with
    | done => exact absurd rfl h0
    | fail _ g1 g2 g3 => exact (clash g1 g3 h1).elim
    | all _ _ g => have := ih g; injection this with e; rw [e]
    | bad _ _ g => have := ih g; cases this
  | bad h0 h1 _ ih => intro g; cases g with
    | done => exact absurd rfl h0
    | fail _ g1 g2 g3 => exact (clash g1 g3 h1).elim
    | all _ _ g => have := ih g; cases this
    | bad _ _ g => exact ih g
def PreP (ws : List Wd) (cs : List Ct) (vs : List Wd) : Prop := (∀ ds, Prs vs (.inl ds) → Prs ws (.inl (cs ++ ds))) ∧ ∀ us, Prs vs (.inr us) → Prs ws (.inr us)
theorem PreP.start (ws : List Wd) : PreP ws [] ws := ⟨fun _ h => h, fun _ h => h⟩
theorem PreP.step {ws vs : List Wd} {cs : List Ct} (h : PreP ws cs vs) (h0 : vs ≠ []) (h1 : ∀ j < 5, okW j vs = true) : PreP ws (cs ++ [(stW 5 vs).2]) (stW 5 vs).1 :=
  ⟨fun ds hd => by rw [List.append_assoc]; exact h.1 _ (.all h0 h1 hd), fun us hu => h.2 _ (.bad h0 h1 hu)⟩
theorem partW_le (k : Nat) (ws : List Wd) (c : Ct) : (partW k ws c).2.1.length ≤ ws.length ∧ ∀ x ∈ (partW k ws c).2.1, x ∈ ws := by
  have ht : ws.tail.length ≤ ws.length ∧ ∀ x ∈ ws.tail, x ∈ ws := ⟨by simp, fun x hx => List.mem_of_mem_tail hx⟩
  have hi : ws.length ≤ ws.length ∧ ∀ x ∈ ws, x ∈ ws := ⟨Nat.le_refl _, fun _ h => h⟩
  have ho : ∀ t v, (optW t v ws).2.2.length ≤ ws.length ∧ ∀ x ∈ (optW t v ws).2.2, x ∈ ws := fun t v => by
    unfold optW
    split
    · have := elW_sub v ws.tail
      exact ⟨Nat.le_trans this.2.2 ht.1, fun x hx => ht.2 x (this.2.1 x hx)⟩
    · exact hi
  obtain ⟨a, b, d, v⟩ := c
  match k with
  | 0 => simp only [partW]; split; exact ht; dsimp only; split; exact ht; exact hi
  | 1 => simp only [partW]; split; exact ht; exact hi
  | 2 => exact ho _ _
  | 3 => exact ho _ _
  | _ + 4 => simp only [partW]; split; exact ht; exact hi
theorem stW_le : ∀ (k : Nat) (ws : List Wd), (stW k ws).1.length ≤ ws.length ∧ ∀ x ∈ (stW k ws).1, x ∈ ws
  | 0, ws => ⟨Nat.le_refl _, fun _ h => h⟩
  | k + 1, ws => by
    have := partW_le k (stW k ws).1 (stW k ws).2
    have ih := stW_le k ws
    exact ⟨Nat.le_trans this.1 ih.1, fun x hx => ih.2 x (this.2 x hx)⟩
theorem stW_lt {ws : List Wd} (h0 : ws ≠ []) (h : okW 0 ws = true) : ∀ k, (stW (k + 1) ws).1.length < ws.length
  | 0 => by
    cases ws with
    | nil => exact absurd rfl h0
    | cons x ws =>
      simp only [okW, stW, partW] at h ⊢
      split
      · simp
      · rename_i h1
        rw [if_neg h1] at h
        simp only [decide_eq_true_eq] at h
        simp [h]
  | k + 1 => Nat.lt_of_le_of_lt (partW_le _ _ _).1 (stW_lt h0 h k)
def ctT (c : Ct) : Tg := ⟨c.2.1, c.1, none, 0, 0, c.2.2.1, none, 0, 0, c.2.2.2⟩
def checkC (cs : List Ct) : Int := checkE (cs.map ctT)
theorem chkE_ct : ∀ (seen : List ByteArray) (rs : List Tg), chkE seen ((rs.map ct).map ctT) = chkE seen rs
  | _, [] => rfl
  | seen, r :: rs => by
    simp only [List.map_cons, chkE]
    rw [show ruleE (ctT (ct r)) = ruleE r from rfl, show (ctT (ct r)).lab = r.lab from rfl]
    rw [chkE_ct _ rs]
theorem checkC_ct (rs : List Tg) : checkC (rs.map ct) = checkE rs := by
  unfold checkC checkE
  rw [chkE_ct]; simp
def ParR (s : ByteArray) (cs : List Ct) (at_ err : Int) : Prop :=
  (65536 < s.size ∧ cs = [] ∧ at_ = 0 ∧ err = 4) ∨
  (s.size ≤ 65536 ∧ ∃ ws, WdF s 0 ws ∧ (
    (Prs ws (.inr []) ∧ cs = [] ∧ at_ = s.size ∧ err = 3) ∨
    (∃ x xs, Prs ws (.inr (x :: xs)) ∧ cs = [] ∧ at_ = (x.2 : Nat) ∧ err = 3) ∨
    (∃ ds, Prs ws (.inl ds) ∧ ((checkC ds ≠ 0 ∧ cs = [] ∧ at_ = 0 ∧ err = checkC ds) ∨ (checkC ds = 0 ∧ cs = ds ∧ at_ = 0 ∧ err = 0)))))
theorem ParR.same {s : ByteArray} {cs ds : List Ct} {a b e f : Int} (h : ParR s cs a e) (g : ParR s ds b f) : cs = ds ∧ a = b ∧ e = f := by
  rcases h with ⟨h0, rfl, rfl, rfl⟩ | ⟨h0, ws, hw, h⟩
  · rcases g with ⟨_, rfl, rfl, rfl⟩ | ⟨g0, _⟩
    · exact ⟨rfl, rfl, rfl⟩
    · omega
  · rcases g with ⟨g0, _⟩ | ⟨_, vs, hv, g⟩
    · omega
    obtain rfl := hw.uniq hv
    rcases h with ⟨p, rfl, rfl, rfl⟩ | ⟨x, xs, p, rfl, rfl, rfl⟩ | ⟨us, p, h⟩
    · rcases g with ⟨q, rfl, rfl, rfl⟩ | ⟨x, xs, q, _⟩ | ⟨us, q, _⟩
      · exact ⟨rfl, rfl, rfl⟩
      · have := p.uniq q; cases this
      · have := p.uniq q; cases this
    · rcases g with ⟨q, rfl, rfl, rfl⟩ | ⟨y, ys, q, rfl, rfl, rfl⟩ | ⟨us, q, _⟩
      · have := p.uniq q; cases this
      · have := p.uniq q; cases this; exact ⟨rfl, rfl, rfl⟩
      · have := p.uniq q; cases this
    · rcases g with ⟨q, rfl, rfl, rfl⟩ | ⟨y, ys, q, rfl, rfl, rfl⟩ | ⟨vs, q, g⟩
      · have := p.uniq q; cases this
      · have := p.uniq q; cases this
      · have := p.uniq q
        cases this
        rcases h with ⟨h1, rfl, rfl, rfl⟩ | ⟨h1, rfl, rfl, rfl⟩
        · rcases g with ⟨g1, rfl, rfl, rfl⟩ | ⟨g1, rfl, rfl, rfl⟩
          · exact ⟨rfl, rfl, rfl⟩
          · exact absurd g1 h1
        · rcases g with ⟨g1, rfl, rfl, rfl⟩ | ⟨g1, rfl, rfl, rfl⟩
          · exact absurd h1 g1
          · exact ⟨rfl, rfl, rfl⟩
end Go.Proofs.YtddlohbhchjjhaaGreatDoor

namespace Go.Proofs.YtddlohbhchjjhaaGreatDoor
open Go.RowKit Go.Shelf
attribute [local go_sem] Oper.semAt_some

theorem TgX.zero {W : World} {rb : Nat} {r : Tg} (h : TgX W rb r) : TgX W 0 r := ⟨own_more h.d (by omega), own_more h.v (by omega), h.ls, h.ds, h.vs⟩
def KStr (W W' : World) : Prop := ∀ (k : Nat) (cur : Array Value), W.heap[k]? = some (Obj.cells cur 9 (0, 0)) → W'.heap[k]? = W.heap[k]?
theorem KStr.trans {A B C : World} (h : KStr A B) (g : KStr B C) : KStr A C := fun k cur hk => (g k cur ((h k cur hk).trans hk)).trans (h k cur hk)
theorem KStr.of_below {A B : World} (h : Below A.heap.size A B) : KStr A B := fun k _ hk => h.block k (Array.getElem?_eq_some_iff.1 hk).1
theorem TgX.kept {W W' : World} {rb : Nat} {r : Tg} (h : TgX W rb r) (hk : KStr W W') : TgX W' rb r :=
  ⟨own_keep h.d (fun k e => by obtain ⟨_, cur, h2⟩ := own_row h.d e; exact hk k cur h2), own_keep h.v (fun k e => by obtain ⟨_, cur, h2⟩ := own_row h.v e; exact hk k cur h2), h.ls, h.ds, h.vs⟩
def ParEnd (s : ByteArray) (w : World) (e : Ending) (w' : World) : Prop :=
  ∃ A n c at_ err rs, e = .returned (.tuple #[.slice A n c, .int .i64 at_, .int .i64 err]) ∧ Sl w' w'.heap.size 4 A n (flat rlC rs) ∧ (∀ t ∈ rs, TgX w' 0 t) ∧ n ≤ c ∧ c ≤ maxLen ∧ ParR s (rs.map ct) at_ err ∧ Below w.heap.size w w'
theorem ParEnd.none_ {s : ByteArray} {w w' : World} {at_ err : Int} (h : ParR s [] at_ err) (hb : Below w.heap.size w w') : ParEnd s w (.returned (.tuple #[.slice none 0 0, .int .i64 at_, .int .i64 err])) w' :=
  ⟨none, 0, 0, at_, err, [], rfl, Sl.nil _ _ _ _, (fun t h => by cases h), Nat.le_refl _, Nat.zero_le _, h, hb⟩
def fnP (rb : Nat) : Array Value := #[.func (.func 137) #[.pointer (some ⟨rb, 0, none⟩)] #[], .func (.func 138) #[.pointer (some ⟨rb, 0, none⟩)] #[], .func (.func 139) #[.pointer (some ⟨rb, 0, none⟩)] #[], .func (.func 140) #[.pointer (some ⟨rb, 0, none⟩)] #[], .func (.func 141) #[.pointer (some ⟨rb, 0, none⟩)] #[]]
theorem part_ct {k : Nat} {ws : List Wd} {r : Tg} (h : k = 0 ∨ ct r = (stW k ws).2) : partW k (stW k ws).1 (ct r) = partW k (stW k ws).1 (stW k ws).2 := by
  rcases h with rfl | h
  · rfl
  · rw [h]
theorem infoRule' : (Tryz.prog.info? 60).map (fun i => (i.zero, i.size, i.bytes)) = some (some (.agg #[.int .i64 0, .string ⟨#[]⟩, .slice none 0 0, .slice none 0 0]), 4, 72) := by kernel_rfl

theorem new_cells (w : World) (t : TypeId) (xs : List Value) : ∀ j u, xs[j]? = some u → (w.alloc (.cells xs.toArray t)).cell? (Addr.add ⟨w.heap.size, 0, none⟩ j) = some u := by
  intro j u hj
  have hb : Bk (w.alloc (.cells xs.toArray t)) w.heap.size t xs.toArray := Bk.new w t _
  rw [Addr.add_lit, hb.cell]
  simpa using hj
set_option maxRecDepth 100000 in
set_option maxHeartbeats 4000000 in
theorem parse_any (s : ByteArray) (w : World) (hs : s.size ≤ maxLen) : Calls Tryz.prog 94 #[.string s] w (ParEnd s w) := by
  go_enter Tryz.func94, Tryz.ntmps94
  by_cases hlong : 65536 < s.size
  · have hz : (65536 : Int) < (s.size : Int) := by omega
    have HP : Hid (ParR s [] 0 4) := .inl ⟨hlong, rfl, rfl, rfl⟩
    go_wp2_with fail
    go_ret3
    exact ParEnd.none_ HP.out (Below.refl _ _)
  have hz : ¬ (65536 : Int) < (s.size : Int) := by omega
  have HSM : Hid (s.size ≤ 65536) := by show _ ≤ _; omega
  go_wp2_with (go_at_call 136; refine (words_any s _).mono ?_; rintro e w1 ⟨rfl, rfl⟩; refine halt_ ?_)
  refine unhalt ?_
  obtain ⟨w1, hw1⟩ : ∃ w1, w.alloc (.cells #[.string s] 9) = w1 := ⟨_, rfl⟩
  have HB1 : Hid (Below w.heap.size w w1) := by show Below _ _ _; rw [← hw1]; exact (Below.refl _ w).alloc (Nat.le_refl _) _
  have g1 : w1.heap[w.heap.size]? = some (.cells #[.string s] 9 (0, 0)) := by rw [← hw1]; exact World.alloc_heap_new w _
  have HC := Lib.hid (collect_any w.heap.size s w1 (by omega) g1)
  rw [hw1]
  clear hw1 g1
  go_wp2_with (go_at_call 135; refine HC.out.mono ?_; rintro e w2 ⟨A, c, ws, rfl, hF, hsz, hwl, hnc, hcm, hsl, hb2⟩; refine halt_ ?_)
  refine unhalt ?_
  have HF := Lib.hid hF; have HSZ : Hid (∀ x ∈ ws, x.1.size ≤ maxLen) := fun x hx => Nat.le_trans (hsz x hx).1 hs
  have HB2 : Hid (Below w.heap.size w w2) := HB1.out.trans (hb2.mono HB1.out.size)
  have HSL := Lib.hid hsl
  have hws : ws.length ≤ 65536 := Nat.le_trans hwl HSM.out
  clear hF hsz hwl hsl hb2 HC HB1
  obtain ⟨rb, hrb⟩ : ∃ rb, w2.heap.size = rb := ⟨_, rfl⟩
  obtain ⟨w3, hw3⟩ : ∃ w3, w2.alloc (.cells #[.slice A ws.length c, .int .i64 0, .string ⟨#[]⟩, .slice none 0 0, .slice none 0 0] 170) = w3 := ⟨_, rfl⟩
  have HR3 : Hid (Rdr w3 rb A ws.length c ws ⟨⟨#[]⟩, 0, none, 0, 0, [], none, 0, 0, []⟩) := by
    show Rdr _ _ _ _ _ _ _
    rw [← hw3, ← hrb]
    exact ⟨Bk.new w2 _ _, HSL.out.alloc (Nat.le_refl _) _, hnc, hcm⟩
  have HB3 : Hid (Below w.heap.size w w3) := by show Below _ _ _; rw [← hw3]; exact HB2.out.alloc HB2.out.size _
  have hz3 : w3.heap.size = rb + 1 := by rw [← hw3, ← hrb]; simp
  have hzw : w.heap.size ≤ rb := by rw [← hrb]; exact HB2.out.size
  have HW3 := Lib.hid hw3; have HRB := Lib.hid hrb
  clear hw3 hrb
  go_wp2_with fail
  rw [HRB.out, HW3.out]
  obtain ⟨i0, hi, hz0, hz1', hz2'⟩ := info_parts infoRule'
  have Hi := Lib.hid hi; have Hz0 := Lib.hid hz0; have Hz1 := Lib.hid hz1'; have Hz2 := Lib.hid hz2'
  clear hi hz0 hz1' hz2'
  go_loopw [6] (fun q wr => ∃ (Al : Option Addr) (m cl : Nat) (rs : List Tg) (vs : List Wd) (An : Option Addr) (nn cn : Nat) (r : Tg), q = .slice Al m cl ∧ m + vs.length ≤ 65536 ∧ Hid (rs.length = m) ∧ Hid (wr.ownsRow (rb + 1) 60 4 (.slice Al m cl) m (flat rlC rs)) ∧ Hid (Rdr wr rb An nn cn vs r) ∧ Hid (∀ t ∈ rs, TgX wr rb t) ∧ Hid (PreP ws (rs.map ct) vs) ∧ Hid (∀ x ∈ vs, x.1.size ≤ maxLen) ∧ Hid (BelowX rb w3 wr) ∧ Hid (Below w.heap.size w wr)) (fun q _ => 65536 - lenV q)
  case atStart => exact ⟨none, 0, 0, [], ws, A, ws.length, c, _, rfl, by omega, rfl, World.ownsRow_nil _ _ _ _, HR3.out, (fun t h => by cases h), PreP.start ws, HSZ.out, BelowX.refl _ _ (by omega), HB3.out⟩
  case round =>
    obtain ⟨Al, m, cl, rs, vs, An, nn, cn, r, rfl, hmv, hrl, hO, hR, hTX, hP, hVS, hBX, hBw⟩ := hrel
    have hnn : vs.length = nn := hR.out.len
    have hzr := hBX.out.size
    have d0 := hR.out.blk.cell 0
    simp only [List.getElem?_toArray, List.getElem?_cons_zero] at d0
    by_cases hvs : vs = []
    · subst hvs
      simp at hnn
      subst hnn
      have HPR := Lib.hid (hP.out.1 _ .done)
      have HCK := Lib.hid (check_g Al m cl wr.heap.size rs wr (Sl.of_own hO.out) (fun t ht => (hTX.out t ht).ok) (Nat.le_refl _) (by
        obtain ⟨_, _, hform, h1, h2⟩ := ownsRow_form hO.out
        injection hform with _ _ e; omega) (by
        obtain ⟨_, _, hform, h1, h2⟩ := ownsRow_form hO.out
        injection hform with _ _ e; omega))
      have HPR2 : Hid (∀ cs at_ err, ((checkE rs ≠ 0 ∧ cs = [] ∧ at_ = 0 ∧ err = checkE rs) ∨ (checkE rs = 0 ∧ cs = rs.map ct ∧ at_ = 0 ∧ err = 0)) → ParR s cs at_ err) := fun cs at_ err h => .inr ⟨HSM.out, ws, HF.out, .inr (.inr ⟨_, HPR.out, by rw [List.append_nil, checkC_ct]; exact h⟩)⟩
      clear HPR
      by_cases hv : checkE rs = 0
      · have HV := Lib.hid hv
        rw [hv] at HCK
        clear hv
        go_wp2_with (go_at_call 81; refine HCK.out.mono ?_; rintro e w5 ⟨rfl, hb5⟩)
        go_ret3
        have hbx := BelowX.of_below (rb := rb) hb5 (by omega)
        have HO5 : Hid (w5.ownsRow (rb + 1) 60 4 (.slice Al m cl) m (flat rlC rs)) := own_keep hO.out (fun k hk => by
          obtain ⟨h1, cur, h2⟩ := own_row hO.out hk
          exact hbx.blk k (by omega) (Array.getElem?_eq_some_iff.1 h2).1)
        obtain ⟨_, _, hform, h1, h2⟩ := ownsRow_form HO5.out
        injection hform with _ _ e2
        subst e2
        exact ⟨Al, m, cl, 0, 0, rs, rfl, Sl.of_own HO5.out, fun t ht => ((hTX.out t ht).step hbx).zero, h1, h2, HPR2.out _ _ _ (.inr ⟨HV.out, rfl, rfl, rfl⟩), hBw.out.trans (hb5.mono hBw.out.size)⟩
      · have hv' : (checkE rs != 0) = true := by simpa using hv
        have HV := Lib.hid hv
        obtain ⟨v, hve⟩ : ∃ v, checkE rs = v := ⟨_, rfl⟩
        rw [hve] at HCK hv' HPR2 HV
        clear hv hve
        go_wp2_with (go_at_call 81; refine HCK.out.mono ?_; rintro e w5 ⟨rfl, hb5⟩)
        go_ret3
        exact ParEnd.none_ (HPR2.out _ _ _ (.inl ⟨HV.out, rfl, rfl, rfl⟩)) (hBw.out.trans (hb5.mono hBw.out.size))
    · have hne : nn ≠ 0 := fun e => hvs (List.eq_nil_of_length_eq_zero (by omega))
      have hnz : (0 : Int) < (nn : Int) := by omega
      have HVS := Lib.hid hvs
      have HFB : Hid (Bk (wr.alloc (.cells (fnP rb) 24)) wr.heap.size 24 (fnP rb)) := Bk.new wr _ _
      obtain ⟨w4, hw4⟩ : ∃ w4, wr.alloc (.cells (fnP rb) 24) = w4 := ⟨_, rfl⟩
      have HBX4o : Hid (BelowX rb wr w4) := BelowX.of_below (by rw [← hw4]; exact (Below.refl _ wr).alloc (Nat.le_refl _) _) (by omega)
      have HR4 : Hid (Rdr w4 rb An nn cn vs r) := hR.out.keepw HBX4o.out (by rw [← hw4]; exact hR.out.blk.alloc _)
      rw [hw4] at HFB
      obtain ⟨fb, hfb⟩ : ∃ fb, wr.heap.size = fb := ⟨_, rfl⟩
      rw [hfb] at HFB
      have hz4 : w4.heap.size = fb + 1 := by rw [← hw4, ← hfb]; simp
      have hfr : rb < fb := by omega
      have HW4 := Lib.hid hw4; have HFBs := Lib.hid hfb
      clear hvs hw4 hfb hR
      obtain ⟨wo, hwo⟩ : ∃ wo, wo = wr := ⟨_, rfl⟩
      subst hwo
      go_wp2_with fail
      simp only [show (#[Value.func (.func 137) #[.pointer (some ⟨rb, 0, none⟩)] #[], .func (.func 138) #[.pointer (some ⟨rb, 0, none⟩)] #[], .func (.func 139) #[.pointer (some ⟨rb, 0, none⟩)] #[], .func (.func 140) #[.pointer (some ⟨rb, 0, none⟩)] #[], .func (.func 141) #[.pointer (some ⟨rb, 0, none⟩)] #[]] : Array Value) = fnP rb from rfl, HW4.out, HFBs.out]
      obtain ⟨lb, hlb⟩ : ∃ lb, wo = lb := ⟨_, rfl⟩
      have HVM : Hid (∀ k, ∀ x ∈ (stW k vs).1, x.1.size ≤ maxLen) := fun k x hx => hVS.out x ((stW_le k vs).2 x hx)
      have HVL : Hid (∀ k, (stW k vs).1.length ≤ 1000000) := fun k => by have := (stW_le k vs).1; omega
      have hdn : decide (0 < nn) = true := by rw [decide_eq_true_eq]; omega
      rw [hdn]
      clear hdn
      go_loopw [36] (fun q wr => ∃ (k : Nat) (An : Option Addr) (nn cn : Nat) (r : Tg), q = .int .i64 (k : Int) ∧ k ≤ 5 ∧ Hid (∀ j < k, okW j vs = true) ∧ Hid (Rdr wr rb An nn cn (stW k vs).1 r) ∧ Hid (k = 0 ∨ (ct r = (stW k vs).2 ∧ TgX wr rb r)) ∧ Hid (BelowX rb w4 wr)) (fun q _ => 5 - (intOf q).toNat)
      case atStart => exact ⟨0, An, nn, cn, r, rfl, by omega, (fun j h => by omega), HR4.out, .inl rfl, BelowX.refl _ _ (by omega)⟩
      case round =>
        obtain ⟨k, Ai, ni, ci, ri, rfl, hk5, hok, hR, hcr, hBX4⟩ := hrel
        have hFB : Bk wr fb 24 (fnP rb) := (hBX4.out.blk fb hfr (by omega)).trans HFB.out
        have hzi := hBX4.out.size
        have hct : k = 0 ∨ ct ri = (stW k vs).2 := hcr.out.imp id (fun h => h.1)
        have hPC := part_ct hct
        have HCR := Lib.hid hcr.out
        clear hct hcr d0
        rcases (by omega : k = 0 ∨ k = 1 ∨ k = 2 ∨ k = 3 ∨ k = 4 ∨ k = 5) with rfl | rfl | rfl | rfl | rfl | rfl
        · have y0 := hFB.cell 0
          simp only [fnP, List.getElem?_toArray, List.getElem?_cons_zero] at y0
          have hpt := kind_any rb Ai ni ci _ ri wr hR.out
          rw [hPC] at hpt
          have HP1 : Hid (okW 0 vs = (partW 0 (stW 0 vs).1 (stW 0 vs).2).1) := rfl
          have HP2 : Hid (stW (0 + 1) vs = (partW 0 (stW 0 vs).1 (stW 0 vs).2).2) := rfl
          obtain ⟨p, hp⟩ : ∃ p, partW 0 (stW 0 vs).1 (stW 0 vs).2 = p := ⟨_, rfl⟩
          rw [hp] at hpt HP1 HP2
          obtain ⟨pb, pw, pc⟩ := p
          have HPT := Lib.hid hpt
          clear hpt hp hPC
          cases pb with
          | true =>
            have HOK : Hid (∀ j < 0 + 1, okW j vs = true) := fun j hj => by
              rcases Nat.lt_or_ge j 0 with e | e
              · exact hok.out j e
              · have : j = 0 := by omega
                subst this; exact HP1.out
            go_wp2_with (go_at_call 137; refine HPT.out.mono ?_; rintro e w5 ⟨rfl, A5, n5, q5, r5, hr5, hc5, hx5, hb5⟩)
            go_roundw
            case rel => exact ⟨0 + 1, A5, n5, q5, r5, rfl, by omega, HOK.out, by rw [HP2.out]; exact hr5, .inr ⟨by rw [HP2.out]; exact hc5, hx5⟩, hBX4.out.trans hb5⟩
            case measure => simp [intOf]
          | false =>
            have HFL : Hid (Prs ws (.inr pw)) := by
              have h := hP.out.2 _ (Prs.fail HVS.out (show 0 < 5 by decide) hok.out HP1.out)
              rw [HP2.out] at h; exact h
            go_wp2_with (go_at_call 137; refine HPT.out.mono ?_; rintro e w5 ⟨rfl, A5, n5, q5, r5, hr5, hc5, hx5, hb5⟩; refine halt_ ?_)
            refine unhalt ?_
            have HR5 := Lib.hid hr5
            have HB5 : Hid (Below w.heap.size w w5) := hBw.out.trans ((HBX4o.out.below.trans (hBX4.out.trans hb5).below).mono hzw)
            have c0 := hr5.blk.cell 0
            simp only [List.getElem?_toArray, List.getElem?_cons_zero] at c0
            have hl5 := hr5.len
            clear hr5 hc5 hx5 hb5 y0 HPT
            cases pw with
            | nil =>
              simp at hl5
              subst hl5
              have HPA : Hid (ParR s [] s.size 3) := .inr ⟨HSM.out, ws, HF.out, .inl ⟨HFL.out, rfl, rfl, rfl⟩⟩
              go_wp2_with fail
              go_ret3
              exact ParEnd.none_ HPA.out HB5.out
            | cons x xs =>
              obtain ⟨b, off, y, rfl, hb, hy, hc⟩ := HR5.out.sl.at_ (k := 0) wdC_len (by omega) (by simp at hl5; omega)
              simp at hy
              subst hy
              have c1 := hc 1 _ rfl
              simp only [Nat.zero_mul, Nat.add_zero] at c1
              have hnp : 0 < n5 := by simp at hl5; omega
              have hnz5 : ((n5 : Nat) : Int) ≠ 0 := by omega
              have hnz6 : (0 : Int) < (n5 : Int) := by omega
              have HPA : Hid (ParR s [] (x.2 : Nat) 3) := .inr ⟨HSM.out, ws, HF.out, .inr (.inl ⟨x, xs, HFL.out, rfl, rfl, rfl⟩)⟩
              clear hc hb
              go_wp2_with fail
              go_quiet (fail)
              go_wp2_with fail
              go_ret3
              exact ParEnd.none_ HPA.out (below_drewN HB5.out _)
        · have y0 := hFB.cell 1
          simp only [fnP, List.getElem?_toArray, List.getElem?_cons_zero, List.getElem?_cons_succ] at y0
          have hpt := name_any rb Ai ni ci _ ri wr hR.out (HCR.out.resolve_left (by decide)).2 (HVM.out 1)
          rw [hPC] at hpt
          have HP1 : Hid (okW 1 vs = (partW 1 (stW 1 vs).1 (stW 1 vs).2).1) := rfl
          have HP2 : Hid (stW (1 + 1) vs = (partW 1 (stW 1 vs).1 (stW 1 vs).2).2) := rfl
          obtain ⟨p, hp⟩ : ∃ p, partW 1 (stW 1 vs).1 (stW 1 vs).2 = p := ⟨_, rfl⟩
          rw [hp] at hpt HP1 HP2
          obtain ⟨pb, pw, pc⟩ := p
          have HPT := Lib.hid hpt
          clear hpt hp hPC
          cases pb with
          | true =>
            have HOK : Hid (∀ j < 1 + 1, okW j vs = true) := fun j hj => by
              rcases Nat.lt_or_ge j 1 with e | e
              · exact hok.out j e
              · have : j = 1 := by omega
                subst this; exact HP1.out
            go_wp2_with (go_at_call 138; refine HPT.out.mono ?_; rintro e w5 ⟨rfl, A5, n5, q5, r5, hr5, hc5, hx5, hb5⟩)
            go_roundw
            case rel => exact ⟨1 + 1, A5, n5, q5, r5, rfl, by omega, HOK.out, by rw [HP2.out]; exact hr5, .inr ⟨by rw [HP2.out]; exact hc5, hx5⟩, hBX4.out.trans hb5⟩
            case measure => simp [intOf]
          | false =>
            have HFL : Hid (Prs ws (.inr pw)) := by
              have h := hP.out.2 _ (Prs.fail HVS.out (show 1 < 5 by decide) hok.out HP1.out)
              rw [HP2.out] at h; exact h
            go_wp2_with (go_at_call 138; refine HPT.out.mono ?_; rintro e w5 ⟨rfl, A5, n5, q5, r5, hr5, hc5, hx5, hb5⟩; refine halt_ ?_)
            refine unhalt ?_
            have HR5 := Lib.hid hr5
            have HB5 : Hid (Below w.heap.size w w5) := hBw.out.trans ((HBX4o.out.below.trans (hBX4.out.trans hb5).below).mono hzw)
            have c0 := hr5.blk.cell 0
            simp only [List.getElem?_toArray, List.getElem?_cons_zero] at c0
            have hl5 := hr5.len
            clear hr5 hc5 hx5 hb5 y0 HPT
            cases pw with
            | nil =>
              simp at hl5
              subst hl5
              have HPA : Hid (ParR s [] s.size 3) := .inr ⟨HSM.out, ws, HF.out, .inl ⟨HFL.out, rfl, rfl, rfl⟩⟩
              go_wp2_with fail
              go_ret3
              exact ParEnd.none_ HPA.out HB5.out
            | cons x xs =>
              obtain ⟨b, off, y, rfl, hb, hy, hc⟩ := HR5.out.sl.at_ (k := 0) wdC_len (by omega) (by simp at hl5; omega)
              simp at hy
              subst hy
              have c1 := hc 1 _ rfl
              simp only [Nat.zero_mul, Nat.add_zero] at c1
              have hnp : 0 < n5 := by simp at hl5; omega
              have hnz5 : ((n5 : Nat) : Int) ≠ 0 := by omega
              have hnz6 : (0 : Int) < (n5 : Int) := by omega
              have HPA : Hid (ParR s [] (x.2 : Nat) 3) := .inr ⟨HSM.out, ws, HF.out, .inr (.inl ⟨x, xs, HFL.out, rfl, rfl, rfl⟩)⟩
              clear hc hb
              go_wp2_with fail
              go_quiet (fail)
              go_wp2_with fail
              go_ret3
              exact ParEnd.none_ HPA.out (below_drewN HB5.out _)
        · have y0 := hFB.cell 2
          simp only [fnP, List.getElem?_toArray, List.getElem?_cons_zero, List.getElem?_cons_succ] at y0
          have hpt := deps_m rb Ai ni ci _ ri wr hR.out (HCR.out.resolve_left (by decide)).2 (HVM.out 2) (HVL.out 2)
          rw [hPC] at hpt
          have HP1 : Hid (okW 2 vs = (partW 2 (stW 2 vs).1 (stW 2 vs).2).1) := rfl
          have HP2 : Hid (stW (2 + 1) vs = (partW 2 (stW 2 vs).1 (stW 2 vs).2).2) := rfl
          obtain ⟨p, hp⟩ : ∃ p, partW 2 (stW 2 vs).1 (stW 2 vs).2 = p := ⟨_, rfl⟩
          rw [hp] at hpt HP1 HP2
          obtain ⟨pb, pw, pc⟩ := p
          have HPT := Lib.hid hpt
          clear hpt hp hPC
          cases pb with
          | true =>
            have HOK : Hid (∀ j < 2 + 1, okW j vs = true) := fun j hj => by
              rcases Nat.lt_or_ge j 2 with e | e
              · exact hok.out j e
              · have : j = 2 := by omega
                subst this; exact HP1.out
            go_wp2_with (go_at_call 139; refine HPT.out.mono ?_; rintro e w5 ⟨rfl, A5, n5, q5, r5, hr5, hc5, hx5, hb5⟩)
            go_roundw
            case rel => exact ⟨2 + 1, A5, n5, q5, r5, rfl, by omega, HOK.out, by rw [HP2.out]; exact hr5, .inr ⟨by rw [HP2.out]; exact hc5, hx5⟩, hBX4.out.trans hb5⟩
            case measure => simp [intOf]
          | false =>
            have HFL : Hid (Prs ws (.inr pw)) := by
              have h := hP.out.2 _ (Prs.fail HVS.out (show 2 < 5 by decide) hok.out HP1.out)
              rw [HP2.out] at h; exact h
            go_wp2_with (go_at_call 139; refine HPT.out.mono ?_; rintro e w5 ⟨rfl, A5, n5, q5, r5, hr5, hc5, hx5, hb5⟩; refine halt_ ?_)
            refine unhalt ?_
            have HR5 := Lib.hid hr5
            have HB5 : Hid (Below w.heap.size w w5) := hBw.out.trans ((HBX4o.out.below.trans (hBX4.out.trans hb5).below).mono hzw)
            have c0 := hr5.blk.cell 0
            simp only [List.getElem?_toArray, List.getElem?_cons_zero] at c0
            have hl5 := hr5.len
            clear hr5 hc5 hx5 hb5 y0 HPT
            cases pw with
            | nil =>
              simp at hl5
              subst hl5
              have HPA : Hid (ParR s [] s.size 3) := .inr ⟨HSM.out, ws, HF.out, .inl ⟨HFL.out, rfl, rfl, rfl⟩⟩
              go_wp2_with fail
              go_ret3
              exact ParEnd.none_ HPA.out HB5.out
            | cons x xs =>
              obtain ⟨b, off, y, rfl, hb, hy, hc⟩ := HR5.out.sl.at_ (k := 0) wdC_len (by omega) (by simp at hl5; omega)
              simp at hy
              subst hy
              have c1 := hc 1 _ rfl
              simp only [Nat.zero_mul, Nat.add_zero] at c1
              have hnp : 0 < n5 := by simp at hl5; omega
              have hnz5 : ((n5 : Nat) : Int) ≠ 0 := by omega
              have hnz6 : (0 : Int) < (n5 : Int) := by omega
              have HPA : Hid (ParR s [] (x.2 : Nat) 3) := .inr ⟨HSM.out, ws, HF.out, .inr (.inl ⟨x, xs, HFL.out, rfl, rfl, rfl⟩)⟩
              clear hc hb
              go_wp2_with fail
              go_quiet (fail)
              go_wp2_with fail
              go_ret3
              exact ParEnd.none_ HPA.out (below_drewN HB5.out _)
        · have y0 := hFB.cell 3
          simp only [fnP, List.getElem?_toArray, List.getElem?_cons_zero, List.getElem?_cons_succ] at y0
          have hpt := visible_m rb Ai ni ci _ ri wr hR.out (HCR.out.resolve_left (by decide)).2 (HVM.out 3) (HVL.out 3)
          rw [hPC] at hpt
          have HP1 : Hid (okW 3 vs = (partW 3 (stW 3 vs).1 (stW 3 vs).2).1) := rfl
          have HP2 : Hid (stW (3 + 1) vs = (partW 3 (stW 3 vs).1 (stW 3 vs).2).2) := rfl
          obtain ⟨p, hp⟩ : ∃ p, partW 3 (stW 3 vs).1 (stW 3 vs).2 = p := ⟨_, rfl⟩
          rw [hp] at hpt HP1 HP2
          obtain ⟨pb, pw, pc⟩ := p
          have HPT := Lib.hid hpt
          clear hpt hp hPC
          cases pb with
          | true =>
            have HOK : Hid (∀ j < 3 + 1, okW j vs = true) := fun j hj => by
              rcases Nat.lt_or_ge j 3 with e | e
              · exact hok.out j e
              · have : j = 3 := by omega
                subst this; exact HP1.out
            go_wp2_with (go_at_call 140; refine HPT.out.mono ?_; rintro e w5 ⟨rfl, A5, n5, q5, r5, hr5, hc5, hx5, hb5⟩)
            go_roundw
            case rel => exact ⟨3 + 1, A5, n5, q5, r5, rfl, by omega, HOK.out, by rw [HP2.out]; exact hr5, .inr ⟨by rw [HP2.out]; exact hc5, hx5⟩, hBX4.out.trans hb5⟩
            case measure => simp [intOf]
          | false =>
            have HFL : Hid (Prs ws (.inr pw)) := by
              have h := hP.out.2 _ (Prs.fail HVS.out (show 3 < 5 by decide) hok.out HP1.out)
              rw [HP2.out] at h; exact h
            go_wp2_with (go_at_call 140; refine HPT.out.mono ?_; rintro e w5 ⟨rfl, A5, n5, q5, r5, hr5, hc5, hx5, hb5⟩; refine halt_ ?_)
            refine unhalt ?_
            have HR5 := Lib.hid hr5
            have HB5 : Hid (Below w.heap.size w w5) := hBw.out.trans ((HBX4o.out.below.trans (hBX4.out.trans hb5).below).mono hzw)
            have c0 := hr5.blk.cell 0
            simp only [List.getElem?_toArray, List.getElem?_cons_zero] at c0
            have hl5 := hr5.len
            clear hr5 hc5 hx5 hb5 y0 HPT
            cases pw with
            | nil =>
              simp at hl5
              subst hl5
              have HPA : Hid (ParR s [] s.size 3) := .inr ⟨HSM.out, ws, HF.out, .inl ⟨HFL.out, rfl, rfl, rfl⟩⟩
              go_wp2_with fail
              go_ret3
              exact ParEnd.none_ HPA.out HB5.out
            | cons x xs =>
              obtain ⟨b, off, y, rfl, hb, hy, hc⟩ := HR5.out.sl.at_ (k := 0) wdC_len (by omega) (by simp at hl5; omega)
              simp at hy
              subst hy
              have c1 := hc 1 _ rfl
              simp only [Nat.zero_mul, Nat.add_zero] at c1
              have hnp : 0 < n5 := by simp at hl5; omega
              have hnz5 : ((n5 : Nat) : Int) ≠ 0 := by omega
              have hnz6 : (0 : Int) < (n5 : Int) := by omega
              have HPA : Hid (ParR s [] (x.2 : Nat) 3) := .inr ⟨HSM.out, ws, HF.out, .inr (.inl ⟨x, xs, HFL.out, rfl, rfl, rfl⟩)⟩
              clear hc hb
              go_wp2_with fail
              go_quiet (fail)
              go_wp2_with fail
              go_ret3
              exact ParEnd.none_ HPA.out (below_drewN HB5.out _)
        · have y0 := hFB.cell 4
          simp only [fnP, List.getElem?_toArray, List.getElem?_cons_zero, List.getElem?_cons_succ] at y0
          have hpt := end_any rb Ai ni ci _ ri wr hR.out (HCR.out.resolve_left (by decide)).2
          rw [hPC] at hpt
          have HP1 : Hid (okW 4 vs = (partW 4 (stW 4 vs).1 (stW 4 vs).2).1) := rfl
          have HP2 : Hid (stW (4 + 1) vs = (partW 4 (stW 4 vs).1 (stW 4 vs).2).2) := rfl
          obtain ⟨p, hp⟩ : ∃ p, partW 4 (stW 4 vs).1 (stW 4 vs).2 = p := ⟨_, rfl⟩
          rw [hp] at hpt HP1 HP2
          obtain ⟨pb, pw, pc⟩ := p
          have HPT := Lib.hid hpt
          clear hpt hp hPC
          cases pb with
          | true =>
            have HOK : Hid (∀ j < 4 + 1, okW j vs = true) := fun j hj => by
              rcases Nat.lt_or_ge j 4 with e | e
              · exact hok.out j e
              · have : j = 4 := by omega
                subst this; exact HP1.out
            go_wp2_with (go_at_call 141; refine HPT.out.mono ?_; rintro e w5 ⟨rfl, A5, n5, q5, r5, hr5, hc5, hx5, hb5⟩)
            go_roundw
            case rel => exact ⟨4 + 1, A5, n5, q5, r5, rfl, by omega, HOK.out, by rw [HP2.out]; exact hr5, .inr ⟨by rw [HP2.out]; exact hc5, hx5⟩, hBX4.out.trans hb5⟩
            case measure => simp [intOf]
          | false =>
            have HFL : Hid (Prs ws (.inr pw)) := by
              have h := hP.out.2 _ (Prs.fail HVS.out (show 4 < 5 by decide) hok.out HP1.out)
              rw [HP2.out] at h; exact h
            go_wp2_with (go_at_call 141; refine HPT.out.mono ?_; rintro e w5 ⟨rfl, A5, n5, q5, r5, hr5, hc5, hx5, hb5⟩; refine halt_ ?_)
            refine unhalt ?_
            have HR5 := Lib.hid hr5
            have HB5 : Hid (Below w.heap.size w w5) := hBw.out.trans ((HBX4o.out.below.trans (hBX4.out.trans hb5).below).mono hzw)
            have c0 := hr5.blk.cell 0
            simp only [List.getElem?_toArray, List.getElem?_cons_zero] at c0
            have hl5 := hr5.len
            clear hr5 hc5 hx5 hb5 y0 HPT
            cases pw with
            | nil =>
              simp at hl5
              subst hl5
              have HPA : Hid (ParR s [] s.size 3) := .inr ⟨HSM.out, ws, HF.out, .inl ⟨HFL.out, rfl, rfl, rfl⟩⟩
              go_wp2_with fail
              go_ret3
              exact ParEnd.none_ HPA.out HB5.out
            | cons x xs =>
              obtain ⟨b, off, y, rfl, hb, hy, hc⟩ := HR5.out.sl.at_ (k := 0) wdC_len (by omega) (by simp at hl5; omega)
              simp at hy
              subst hy
              have c1 := hc 1 _ rfl
              simp only [Nat.zero_mul, Nat.add_zero] at c1
              have hnp : 0 < n5 := by simp at hl5; omega
              have hnz5 : ((n5 : Nat) : Int) ≠ 0 := by omega
              have hnz6 : (0 : Int) < (n5 : Int) := by omega
              have HPA : Hid (ParR s [] (x.2 : Nat) 3) := .inr ⟨HSM.out, ws, HF.out, .inr (.inl ⟨x, xs, HFL.out, rfl, rfl, rfl⟩)⟩
              clear hc hb
              go_wp2_with fail
              go_quiet (fail)
              go_wp2_with fail
              go_ret3
              exact ParEnd.none_ HPA.out (below_drewN HB5.out _)
        · have hcx := HCR.out.resolve_left (by decide)
          have c1 := hR.out.blk.cell 1; have c2 := hR.out.blk.cell 2; have c3 := hR.out.blk.cell 3; have c4 := hR.out.blk.cell 4
          simp only [List.getElem?_toArray, List.getElem?_cons_zero, List.getElem?_cons_succ] at c1 c2 c3 c4
          have HBW : Hid (BelowX rb wo wr) := HBX4o.out.trans hBX4.out
          have HOw : Hid (wr.ownsRow (rb + 1) 60 4 (.slice Al m cl) m (flat rlC rs)) := own_keep hO.out (fun k hk => by
            obtain ⟨h1, cur, h2⟩ := own_row hO.out hk
            exact HBW.out.blk k (by omega) (Array.getElem?_eq_some_iff.1 h2).1)
          have HTX : Hid (∀ t ∈ rs ++ [ri], TgX wr rb t) := fun t ht => by
            rcases List.mem_append.1 ht with ht | ht
            · exact (hTX.out t ht).step HBW.out
            · rw [List.mem_singleton.1 ht]; exact hcx.2
          have hvl : (stW 5 vs).1.length + 1 ≤ vs.length := stW_lt HVS.out (hok.out 0 (by decide)) 4
          have HPP : Hid (PreP ws ((rs ++ [ri]).map ct) (stW 5 vs).1) := by
            have h := hP.out.step HVS.out hok.out
            rw [← hcx.1] at h
            show PreP _ _ _
            rw [List.map_append]; exact h
          have HBwr : Hid (Below w.heap.size w wr) := hBw.out.trans (HBW.out.below.mono hzw)
          have hzr2 := HBW.out.size
          have HRL := hrl
          clear hPC hcx hrl
          go_wp2_with (at_builtin; refine halt_apx (.tmp 58) (.tmp 63) 58 rfl ?_)
          refine unhalt ?_
          refine wpList_append_sl (base := rb + 1) (size := 4) _ rfl (.tmp 58) (.tmp 63) 58 rfl 60 i0 _ 72 Tryz.underlying58 Hi.out Hz0.out Hz1.out Hz2.out rfl (by decide) (.slice Al m cl) m (flat rlC rs) rfl ?own (wr.heap.size + 1) _ 1 _ (rlC ri) rfl ?nw (by simp [rlC, Value.oneCell']) ?l1 ?l2 ?l3 ?_
          case own => exact HOw.out.kept (World.grownBy_alloc wr _ none) (by cases hv : (Value.slice Al m cl).ownBlock with | none => exact .inl rfl | some k => exact .inr (by simp))
          case nw => exact ⟨rfl, fun _ => ⟨wr.heap.size, 0, rfl, Nat.lt_succ_self _, fun j u hu => by have := new_cells wr 60 (rlC ri) j u hu; rwa [Addr.add_lit] at this⟩⟩
          case l1 => unfold maxLen; omega
          case l2 => omega
          case l3 => simp; omega
          intro A6 q6 w6 ho6 hg6 hc61 hc62
          have HO6 : Hid (w6.ownsRow (rb + 1) 60 4 (.slice A6 (m + 1) q6) (m + 1) (flat rlC (rs ++ [ri]))) := by
            show World.ownsRow _ _ _ _ _ _ _
            rw [flat_append]; simpa [flat] using ho6
          have HB6 : Hid (Below (rb + 1) wr w6) := (((Below.refl _ wr).alloc (Nat.le_refl _) _).mono (by omega)).grown hg6 (by simp; omega) (fun k hk => (own_row HOw.out hk).1)
          have HK6 : Hid (∀ (k : Nat) (cur : Array Value), wr.heap[k]? = some (Obj.cells cur 9 (0, 0)) → w6.heap[k]? = wr.heap[k]?) := fun k cur hk => by
            have hlt := (Array.getElem?_eq_some_iff.1 hk).1
            refine (hg6.block k (by simp; omega) (fun e => ?_)).trans (Below.heap_alloc wr _ _ hlt)
            obtain ⟨_, cur', h2⟩ := own_row HOw.out e.symm
            rw [hk] at h2; cases h2
          have hz6 : wr.heap.size + 1 ≤ w6.heap.size := by have := hg6.size; simp at this; omega
          have HTX6 : Hid (∀ t ∈ rs ++ [ri], TgX w6 rb t) := fun t ht => by
            have h := HTX.out t ht
            exact ⟨own_keep h.d (fun k hk => by obtain ⟨_, cur, h2⟩ := own_row h.d hk; exact HK6.out k cur h2), own_keep h.v (fun k hk => by obtain ⟨_, cur, h2⟩ := own_row h.v hk; exact HK6.out k cur h2), h.ls, h.ds, h.vs⟩
          have HR6 : Hid (Rdr w6 rb Ai ni ci (stW 5 vs).1 ri) := ⟨hR.out.blk.below HB6.out (by omega), hR.out.sl.below HB6.out (by omega), hR.out.le, hR.out.max⟩
          clear ho6 hg6
          go_wp2_with fail
          go_roundw
          case rel => exact ⟨A6, m + 1, q6, rs ++ [ri], (stW 5 vs).1, Ai, ni, ci, ri, rfl, by omega, (by show _ = _; simp [HRL.out]), HO6.out, HR6.out, HTX6.out, HPP.out, HVM.out 5, ⟨hBX.out.below.trans (HBW.out.below.trans (HB6.out.mono (by omega))), by omega, fun k h1 h2 => by omega⟩, HBwr.out.trans (HB6.out.mono (by omega))⟩
          case measure => simp [lenV]; omega
end Go.Proofs.YtddlohbhchjjhaaGreatDoor

namespace Go.Proofs.YtddlohbhchjjhaaGreatDoor

def buildW : ByteArray := ⟨#[66, 85, 73, 76, 68]⟩
def slBuildW : ByteArray := ⟨#[47, 66, 85, 73, 76, 68]⟩
def pkW : ByteArray := ⟨#[46, 112, 107]⟩
def dirS (s : ByteArray) : ByteArray := s.extract 0 (Lib.lastIndexByte s 47).toNat
def bldS (d : ByteArray) : ByteArray := if d = ⟨#[]⟩ then buildW else d ++ slBuildW
def hitB (ps : List ByteArray) (lab : ByteArray) : Bool := memB ps (lab ++ pkW) || memB ps (bldS (dirS lab))
def AffK (ts : List Tg) (ps : List ByteArray) (k : Nat) (x : ByteArray) : Prop := ∃ t ∈ ts.take k, hitB ps t.lab = true ∧ (x = t.lab ∨ Rch (nxT ts) x t.lab)
theorem AffK.zero (ts : List Tg) (ps : List ByteArray) (x : ByteArray) : ¬ AffK ts ps 0 x := by rintro ⟨t, ht, _⟩; simp at ht
theorem AffK.miss {ts : List Tg} {ps : List ByteArray} {k : Nat} {t : Tg} (ht : ts[k]? = some t) (hm : hitB ps t.lab = false) (x : ByteArray) : AffK ts ps (k + 1) x ↔ AffK ts ps k x := by
  unfold AffK
  rw [take_snoc ht]
  constructor
  · rintro ⟨u, hu, h1, h2⟩
    rcases List.mem_append.1 hu with hu | hu
    · exact ⟨u, hu, h1, h2⟩
    · rw [List.mem_singleton.1 hu, hm] at h1; cases h1
  · rintro ⟨u, hu, h⟩
    exact ⟨u, List.mem_append_left _ hu, h⟩
theorem AffK.hit {ts : List Tg} {ps : List ByteArray} {k : Nat} {t : Tg} (ht : ts[k]? = some t) (hm : hitB ps t.lab = true) (x : ByteArray) : AffK ts ps (k + 1) x ↔ AffK ts ps k x ∨ x = t.lab ∨ Rch (nxT ts) x t.lab := by
  unfold AffK
  rw [take_snoc ht]
  constructor
  · rintro ⟨u, hu, h1, h2⟩
    rcases List.mem_append.1 hu with hu | hu
    · exact .inl ⟨u, hu, h1, h2⟩
    · rw [List.mem_singleton.1 hu] at h2; exact .inr h2
  · rintro (⟨u, hu, h⟩ | h)
    · exact ⟨u, List.mem_append_left _ hu, h⟩
    · exact ⟨t, by simp, hm, h⟩
theorem rch_isT_from {ts : List Tg} {a b : ByteArray} (h : Rch (nxT ts) a b) : isT ts a = true := by
  obtain ⟨n, hn⟩ := h
  cases n with
  | zero => exact (nxT_mem hn).2
  | succ n => obtain ⟨c, hc, _⟩ := Stp.uncons hn; exact (nxT_mem hc).2
theorem AffK.isT {ts : List Tg} {ps : List ByteArray} {k : Nat} {x : ByteArray} (h : AffK ts ps k x) : isT ts x = true := by
  obtain ⟨t, ht, _, h | h⟩ := h
  · rw [h]; exact (isT_iff ts _).2 (List.mem_map_of_mem (List.mem_of_mem_take ht))
  · exact rch_isT_from h
def AffR (ts : List Tg) (ps : List ByteArray) (l : List ByteArray) : Prop := (¬ Vld ts ∧ l = []) ∨ (Vld ts ∧ Asc l ∧ ∀ x, x ∈ l ↔ AffK ts ps ts.length x)
theorem AffR.same {ts : List Tg} {ps l m : List ByteArray} (h : AffR ts ps l) (g : AffR ts ps m) : l = m := by
  rcases h with ⟨h1, h2⟩ | ⟨h1, h2, h3⟩
  · rcases g with ⟨_, g2⟩ | ⟨g1, _⟩
    · rw [h2, g2]
    · exact absurd g1 h1
  · rcases g with ⟨g1, _⟩ | ⟨_, g2, g3⟩
    · exact absurd h1 g1
    · exact asc_ext h2 g2 fun x => (h3 x).trans (g3 x).symm
def visT (lab : ByteArray) (vis : List ByteArray) (fr : ByteArray) : Bool :=
  decide (dirS lab = dirS fr) || vis.any fun v => decide (v = starW) || (decide (v = fr) || (Lib.hasSuffix (bl v) [47] && Lib.hasPrefix (bl fr) (bl v)))
end Go.Proofs.YtddlohbhchjjhaaGreatDoor

namespace Go.Proofs.YtddlohbhchjjhaaGreatDoor
open Go.RowKit Go.Maps

theorem wrap_sm {x : Int} (h1 : -9223372036854775808 ≤ x) (h2 : x < 9223372036854775808) : IntKind.i64.wrap x = x := by
  simp [IntKind.wrap, IntKind.bits, IntKind.signed]; omega
theorem dir_none {s : ByteArray} (h : Lib.lastIndexByte s 47 = -1) : dirS s = s.extract 0 0 := by unfold dirS; rw [h]; rfl
theorem dir_some {s : ByteArray} {k : Nat} (h : Lib.lastIndexByte s 47 = (k : Int)) : dirS s = s.extract 0 k := by unfold dirS; rw [h]; rfl
theorem last_spec (s : ByteArray) : Lib.lastIndexByte s 47 = -1 ∨ ∃ k : Nat, k < s.size ∧ Lib.lastIndexByte s 47 = (k : Int) := by
  rcases Lib.lastIdx_spec s 47 s.size with ⟨h, _⟩ | ⟨i, h1, h2, _⟩
  · exact .inl h
  · exact .inr ⟨i, h1, h2⟩
theorem dir_size (s : ByteArray) : (dirS s).size ≤ s.size := by unfold dirS; simp; omega

theorem directory_any (s : ByteArray) (w : World) (hs : s.size ≤ 1000000) : Calls Tryz.prog 48 #[.string s] w fun e w' => e = .returned (.string (dirS s)) ∧ w = w' := by
  have HL := Lib.hid (Tryz.strings_LastIndexByte s 47 (by omega) w)
  go_enter Tryz.func48, Tryz.ntmps48
  rcases last_spec s with h | ⟨k, hk, h⟩
  · have HD := Lib.hid (dir_none h)
    rw [h] at HL
    have h2 : max (-1 : Int) 0 = 0 := by decide
    clear h
    go_wp2_with (go_at_call 80; refine HL.out.mono ?_; rintro e w1 ⟨rfl, rfl⟩)
    go_ret
    exact ⟨by rw [HD.out]; first | rfl | simp, rfl⟩
  · have HD := Lib.hid (dir_some h)
    rw [h] at HL
    have h0 : ¬ (k : Int) < 0 := by omega
    have h1 : (k : Int) ≤ (s.size : Int) := by omega
    have h2 : max (k : Int) 0 = (k : Int) := by omega
    clear h
    go_wp2_with (go_at_call 80; refine HL.out.mono ?_; rintro e w1 ⟨rfl, rfl⟩)
    go_ret
    exact ⟨by rw [HD.out]; rfl, rfl⟩
theorem buildPath_any (d : ByteArray) (w : World) (hs : d.size ≤ 1000000) : Calls Tryz.prog 47 #[.string d] w fun e w' => e = .returned (.string (bldS d)) ∧ w = w' := by
  go_enter Tryz.func47, Tryz.ntmps47
  have h1 : (d.toList == []) = decide (d = ⟨#[]⟩) := str_lit d _
  by_cases e1 : d = ⟨#[]⟩
  · rw [decide_eq_true e1] at h1
    have HB : Hid (bldS d = buildW) := if_pos e1
    have h1' : (d.toList == []) = true := h1
    clear h1 e1
    go_wp2_with fail
    go_ret
    exact ⟨by rw [HB.out]; rfl, rfl⟩
  · rw [decide_eq_false e1] at h1
    have HB : Hid (bldS d = d ++ slBuildW) := if_neg e1
    have h1' : (d.toList == []) = false := h1
    have hcat : ¬ (9223372036854775807 < d.size + (⟨#[47, 66, 85, 73, 76, 68]⟩ : ByteArray).size) := by
      have : (⟨#[47, 66, 85, 73, 76, 68]⟩ : ByteArray).size = 6 := rfl
      omega
    clear h1 e1
    go_wp2_with fail
    go_ret
    exact ⟨by rw [HB.out]; rfl, rfl⟩
theorem modulePath_any (s : ByteArray) (w : World) (hs : s.size ≤ 1000000) : Calls Tryz.prog 77 #[.string s] w fun e w' => e = .returned (.string (s ++ pkW)) ∧ w = w' := by
  have hcat : ¬ (9223372036854775807 < s.size + (⟨#[46, 112, 107]⟩ : ByteArray).size) := by
    have : (⟨#[46, 112, 107]⟩ : ByteArray).size = 3 := rfl
    omega
  go_enter Tryz.func77, Tryz.ntmps77
  go_wp2_with fail
  go_ret
  exact ⟨rfl, rfl⟩

/-! ### the reference's -/
end Go.Proofs.YtddlohbhchjjhaaGreatDoor

namespace Go.Proofs.YtddlohbhchjjhaaGreatDoor
open Go.RowKit Go.Maps

def visP (fr v : ByteArray) : Bool := decide (v = starW) || (decide (v = fr) || (Lib.hasSuffix (bl v) [47] && Lib.hasPrefix (bl fr) (bl v)))
theorem any_step {p : ByteArray → Bool} {l : List ByteArray} {k : Nat} {x : ByteArray} (h : ∀ y ∈ l.take k, p y = false) (hx : l[k]? = some x) (hp : p x = false) : ∀ y ∈ l.take (k + 1), p y = false := fun y hy => by
  rw [take_snoc hx] at hy
  rcases List.mem_append.1 hy with hy | hy
  · exact h y hy
  · rw [List.mem_singleton.1 hy]; exact hp
def VsbEnd (r : Bool) (w : World) (e : Ending) (w' : World) : Prop := e = .returned (.bool r) ∧ Below w.heap.size w w'
theorem vis_dir {lab fr : ByteArray} {vis : List ByteArray} (h : dirS lab = dirS fr) : visT lab vis fr = true := by unfold visT; rw [decide_eq_true h]; rfl
theorem vis_nodir {lab fr : ByteArray} {vis : List ByteArray} (h : dirS lab ≠ dirS fr) : visT lab vis fr = vis.any (visP fr) := by unfold visT; rw [decide_eq_false h, Bool.false_or]; rfl

set_option maxRecDepth 100000 in
set_option maxHeartbeats 4000000 in
theorem visible_any (t : Tg) (fr : ByteArray) (B : Nat) (w : World) (hok : TgOk w B t) (hB : B ≤ w.heap.size) (hl : t.lab.size ≤ 1000000) (hf : fr.size ≤ 1000000) :
    Calls Tryz.prog 17 #[tgV t, .string fr] w (VsbEnd (visT t.lab t.vis fr) w) := by
  have hvl := hok.vlen
  have HVS := Lib.hid hok.vs
  have HV0 := Lib.hid hok.v
  have hvm : t.vn ≤ 9223372036854775807 := by have h1 := hok.vle; have h2 := hok.vmax; unfold maxLen at h2; omega
  clear hok
  obtain ⟨lab, kind, dA, dn, dc, deps, vA, vn, vc, vis⟩ := t
  simp only at hvl HVS HV0 hvm hl ⊢
  unfold tgV
  simp only
  obtain ⟨W0, hW0⟩ : ∃ W0, w.alloc (.cells #[.string lab, .int .i64 kind, .slice dA dn dc, .slice vA vn vc] 35) = W0 := ⟨_, rfl⟩
  have HB0 : Hid (Below w.heap.size w W0) := by rw [← hW0]; exact (Below.refl _ w).alloc (Nat.le_refl _) _
  have HK0 : Hid (Bk W0 w.heap.size 35 #[.string lab, .int .i64 kind, .slice dA dn dc, .slice vA vn vc]) := by rw [← hW0]; exact Bk.new w _ _
  have HV := Lib.hid (HV0.out.below HB0.out hB)
  have HD1 := Lib.hid (directory_any lab W0 hl)
  have HD2 := Lib.hid (directory_any fr W0 hf)
  have x0 := HK0.out.cell 0; have x3 := HK0.out.cell 3
  simp at x0 x3
  clear HV0
  go_enter Tryz.func17, Tryz.ntmps17
  have hdd := str_dec (dirS lab) (dirS fr)
  by_cases hd : dirS lab = dirS fr
  · have HR := Lib.hid (vis_dir (vis := vis) hd)
    rw [decide_eq_true hd] at hdd
    clear hd
    rw [← hW0] at x0 x3
    have HW0 := Lib.hid hW0
    clear hW0
    go_wp2_with fail
    rw [HW0.out]
    refine HD1.out.mono ?_
    rintro e w1 ⟨rfl, rfl⟩
    go_wp2_with fail
    refine HD2.out.mono ?_
    rintro e w1 ⟨rfl, rfl⟩
    go_wp2_with fail
    go_ret
    exact ⟨ret_bool HR.out.symm, HB0.out⟩
  · have HR := Lib.hid (vis_nodir (vis := vis) hd)
    rw [decide_eq_false hd] at hdd
    clear hd
    have y0 := x0; have y3 := x3
    rw [← hW0] at x0 x3
    have HW0 := Lib.hid hW0
    clear hW0
    go_wp2_with fail
    rw [HW0.out]
    refine HD1.out.mono ?_
    rintro e w1 ⟨rfl, rfl⟩
    go_wp2_with fail
    refine HD2.out.mono ?_
    rintro e w1 ⟨rfl, rfl⟩
    go_wp2_with fail
    go_loopw [16] (fun i wr => ∃ k : Nat, k ≤ vn ∧ i = .int .i64 k ∧ Hid (∀ y ∈ vis.take k, visP fr y = false) ∧ wr = W0) (fun i _ => vn - (intOf i).toNat)
    case atStart => exact ⟨0, Nat.zero_le _, rfl, fun y hy => by simp at hy, rfl⟩
    case round =>
      obtain ⟨k, hk, rfl, hN, rfl⟩ := hrel
      by_cases hlt : k < vn
      · obtain ⟨b, off, v, rfl, hb, hv, z0⟩ := HV.out.str_at hlt
        have hkz : (k : Int) < (vn : Int) := by omega
        have hvs : v.size ≤ maxLen := HVS.out v (List.mem_of_getElem? hv)
        have HVM := Lib.hid (List.mem_of_getElem? hv)
        have HVK := Lib.hid hv
        have HSU := Lib.hid (Tryz.strings_HasSuffix v ⟨#[47]⟩ wr (by unfold maxLen at hvs; exact hvs))
        have HPR := Lib.hid (Tryz.strings_HasPrefix fr v wr)
        clear hv
        have h1 : (v.toList == [42]) = decide (v = starW) := str_lit v _
        have h2 := str_dec v fr
        have HT : ∀ r, visP fr v = r → Hid (visP fr v = r) := fun r h => h
        have HYes : Hid (visP fr v = true → visT lab vis fr = true) := fun h => by rw [HR.out, List.any_eq_true]; exact ⟨v, HVM.out, h⟩
        have HNo : Hid (visP fr v = false → ∀ y ∈ vis.take (k + 1), visP fr y = false) := any_step hN.out HVK.out
        by_cases e1 : v = starW
        · have hp := HT true (by unfold visP; rw [decide_eq_true e1]; rfl)
          rw [decide_eq_true e1] at h1
          have h1' : (v.toList == [42]) = true := h1
          clear h1 e1 HT
          go_wp2_with fail
          go_ret
          exact ⟨ret_bool (HYes.out hp.out).symm, HB0.out⟩
        · rw [decide_eq_false e1] at h1
          have h1' : (v.toList == [42]) = false := h1
          by_cases e2 : v = fr
          · have hp := HT true (by unfold visP; rw [decide_eq_true e2]; simp)
            rw [decide_eq_true e2] at h2
            clear h1 e1 e2 HT
            go_wp2_with fail
            go_ret
            exact ⟨ret_bool (HYes.out hp.out).symm, HB0.out⟩
          · rw [decide_eq_false e2] at h2
            have hp : visP fr v = (Lib.hasSuffix (bl v) [47] && Lib.hasPrefix (bl fr) (bl v)) := by unfold visP; rw [decide_eq_false e1, decide_eq_false e2]; simp
            cases hs : Lib.hasSuffix (bl v) [47] with
            | false =>
              have hs' : Lib.hasSuffix v.data.toList [47] = false := hs
              have hp2 := HT false (by rw [hp, hs]; rfl)
              have HSU2 : Hid (Calls Tryz.prog 58 #[.string v, .string ⟨#[47]⟩] wr fun e w' => e = .returned (.bool false) ∧ w' = wr) := by
                have := HSU.out; rw [show (⟨#[47]⟩ : ByteArray).data.toList = [47] from rfl, hs'] at this; exact this
              clear h1 e1 e2 HT hs hs' HSU hp
              go_wp2_with (go_at_call 58; refine HSU2.out.mono ?_; rintro e w1 ⟨rfl, rfl⟩)
              go_roundw
              case rel => exact ⟨k + 1, hlt, by go_num, HNo.out hp2.out, trivial⟩
              case measure => simp [intOf]; omega
            | true =>
              have hs' : Lib.hasSuffix v.data.toList [47] = true := hs
              have HSU2 : Hid (Calls Tryz.prog 58 #[.string v, .string ⟨#[47]⟩] wr fun e w' => e = .returned (.bool true) ∧ w' = wr) := by
                have := HSU.out; rw [show (⟨#[47]⟩ : ByteArray).data.toList = [47] from rfl, hs'] at this; exact this
              cases hq : Lib.hasPrefix (bl fr) (bl v) with
              | false =>
                have hp2 := HT false (by rw [hp, hs, hq]; rfl)
                have HPR2 : Hid (Calls Tryz.prog 59 #[.string fr, .string v] wr fun e w' => e = .returned (.bool false) ∧ w' = wr) := by
                  have := HPR.out; rw [show Lib.hasPrefix fr.data.toList v.data.toList = false from hq] at this; exact this
                clear h1 e1 e2 HT hs hs' HSU hp HPR hq
                go_wp2_with (first
                  | (go_at_call 58; refine HSU2.out.mono ?_; rintro e w1 ⟨rfl, rfl⟩)
                  | (go_at_call 59; refine HPR2.out.mono ?_; rintro e w1 ⟨rfl, rfl⟩))
                go_roundw
                case rel => exact ⟨k + 1, hlt, by go_num, HNo.out hp2.out, trivial⟩
                case measure => simp [intOf]; omega
              | true =>
                have hp2 := HT true (by rw [hp, hs, hq]; rfl)
                have HPR2 : Hid (Calls Tryz.prog 59 #[.string fr, .string v] wr fun e w' => e = .returned (.bool true) ∧ w' = wr) := by
                  have := HPR.out; rw [show Lib.hasPrefix fr.data.toList v.data.toList = true from hq] at this; exact this
                clear h1 e1 e2 HT hs hs' HSU hp HPR hq
                go_wp2_with (first
                  | (go_at_call 58; refine HSU2.out.mono ?_; rintro e w1 ⟨rfl, rfl⟩)
                  | (go_at_call 59; refine HPR2.out.mono ?_; rintro e w1 ⟨rfl, rfl⟩))
                go_ret
                exact ⟨ret_bool (HYes.out hp2.out).symm, HB0.out⟩
      · have hkz : ¬ (k : Int) < (vn : Int) := by omega
        have HF : Hid (visT lab vis fr = false) := by
          show _ = _
          rw [HR.out, List.any_eq_false]
          intro y hy
          have := hN.out y (by rw [List.take_of_length_le (by omega)]; exact hy)
          rw [this]; simp
        go_wp2_with fail
        go_ret
        exact ⟨ret_bool HF.out.symm, HB0.out⟩
end Go.Proofs.YtddlohbhchjjhaaGreatDoor
