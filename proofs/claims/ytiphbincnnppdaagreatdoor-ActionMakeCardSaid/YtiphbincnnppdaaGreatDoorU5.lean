/-
  Lemmas: buildfile.Check on one rule. A region that draws its order, whose first n operations only add to memory: whatever the order, each operation's value keeps its word (a predicate that abides what is added), and the rest is carried out in the text's order. A region that draws its order, some of whose operations are guarded, and whose first n operations only add to memory: whatever the order, each operation's value keeps its word. As in Stable, with guards. graph.valid. action.checkOutput: why an output is not valid. strings.Builder in a block of the call's own: what its writers do at this program (copyCheck 80, WriteByte 79, WriteString 71, String 70).
-/
import Derived.StillTail
import Derived.WalkKit
import Derived.IntWalk
import Derived.Lib.Builder
import Derived.Lib.AppendStr
import Derived.Lib.UnsafeStr
import Derived.Laws.Externs
import Derived.Test.YtiphbincnnppdaaGreatDoorU4

namespace Go.Proofs.YtiphbincnnppdaaGreatDoor
open Go.RowKit Go.Shelf

def nameA : ByteArray := ⟨#[97]⟩
theorem lab_a : labB nameA = true := by decide
theorem res_a : resB nameA = false := by decide
theorem idx_a : decide (0 ≤ Lib.indexByte nameA.data.toList 47) = false := by decide
set_option maxHeartbeats 400000 in
theorem freeA_any (w : World) : Calls Tryz.prog 148 #[.string nameA] w fun e w' => e = .returned (.bool true) ∧ Below w.heap.size w w' := by
  have HN : Hid (Calls Tryz.prog 156 #[.string nameA] w fun e w' => e = .returned (.bool true) ∧ Below w.heap.size w w') := by
    show Calls _ _ _ _ _
    go_enter Tryz.func156, Tryz.ntmps156
    go_wp2_with (first
      | (go_at_call 36; refine (label_any _ _ (by decide)).mono ?_; rintro e w1 ⟨rfl, hb⟩; rw [lab_a])
      | (go_at_call 159; refine (Tryz.strings_Contains_one _ _ _).mono ?_; rintro e w1 ⟨rfl, rfl⟩; rw [idx_a]))
    go_ret
    exact ⟨rfl, hb⟩
  go_enter Tryz.func148, Tryz.ntmps148
  go_wp2_with (first
    | (go_at_call 156; refine HN.out.mono ?_; rintro e w1 ⟨rfl, hb⟩)
    | (go_at_call 157; refine (reserved_any _ _).mono ?_; rintro e w2 ⟨rfl, rfl⟩; rw [res_a]))
  go_ret
  exact ⟨rfl, hb⟩
set_option maxRecDepth 100000 in
set_option maxHeartbeats 1000000 in
theorem checkRule_any (A : Option Addr) (n c B : Nat) (l : List ByteArray) (w : World) (h : Sl w B 1 A n (strs l)) (hB : B ≤ w.heap.size) (hn : n ≤ c) (hc : c ≤ maxLen) (hls : ∀ x ∈ l, x.size ≤ maxLen) :
    Calls Tryz.prog 137 #[.agg #[.int .i64 1, .string nameA, .slice none 0 0, .slice A n c]] w fun e w' => e = .returned (.int .i64 (visE l)) ∧ Below w.heap.size w w' := by
  have H := Lib.hid h; have HLS := Lib.hid hls
  have HLL : Hid (l.length = n) := by have := h.1; rw [strs_len] at this; show _ = _; omega
  clear h hls
  have hnm : n ≤ 9223372036854775807 := by unfold maxLen at hc; omega
  have HB0 : Hid (Below w.heap.size w (w.alloc (.cells #[.int .i64 1, .string nameA, .slice none 0 0, .slice A n c] 156))) := (Below.refl _ w).alloc (Nat.le_refl _) _
  have hk0 : Bk (w.alloc (.cells #[.int .i64 1, .string nameA, .slice none 0 0, .slice A n c] 156)) w.heap.size 156 #[.int .i64 1, .string nameA, .slice none 0 0, .slice A n c] := Bk.new w _ _
  have HK0 := Lib.hid hk0
  clear hk0
  go_enter Tryz.func137, Tryz.ntmps137
  go_wp2_with (go_at_call 148; refine (freeA_any _).mono ?_; rintro e w1 ⟨rfl, hb1⟩; refine halt_ ?_)
  refine unhalt ?_
  have HK1 := Lib.hid (HK0.out.below hb1 (by simp))
  have HB1 : Hid (Below w.heap.size w w1) := HB0.out.trans (hb1.mono (by simp))
  have u2 := HK1.out.cell 2; have u3 := HK1.out.cell 3
  simp only [List.getElem?_toArray, List.getElem?_cons_succ, List.getElem?_cons_zero] at u2 u3
  clear hb1
  by_cases hlong : 20 < n
  · have hF : Hid (visE l = 4) := by show _ = _; unfold visE; rw [if_pos (by rw [HLL.out]; exact hlong)]
    have hlz : (20 : Int) < (n : Int) := by omega
    go_wp2_with fail
    go_ret
    exact ⟨ret_int hF.out.symm, HB1.out⟩
  · have hF : Hid (visE l = elE viewB [] l) := by show _ = _; unfold visE; rw [if_neg (by rw [HLL.out]; exact hlong)]
    have hlz : ¬ (20 : Int) < (n : Int) := by omega
    have HV := Lib.hid (checkView_any A n c B l w1 (H.out.below HB1.out hB) (Nat.le_trans hB HB1.out.size) hn hc HLS.out)
    go_wp2_with (go_at_call 149; refine (checkNone_any none 0 _ _).mono ?_; rintro e w2 ⟨rfl, rfl⟩; refine halt_ ?_)
    refine unhalt ?_
    go_wp2_with (go_at_call 149; refine HV.out.mono ?_; rintro e w2 ⟨rfl, hb2⟩)
    go_ret
    exact ⟨ret_int hF.out.symm, HB1.out.trans (hb2.mono HB1.out.size)⟩
set_option maxHeartbeats 400000 in
theorem indexNone_any (A : Option Addr) (c : Nat) (f : Value) (w : World) : Calls Tryz.prog 152 #[.slice A 0 c, f] w fun e w' => e = .returned (.int .i64 (-1)) ∧ w = w' := by
  go_enter Tryz.func152, Tryz.ntmps152
  go_wp2
  go_loop [8] (fun i => i = .int .i64 0) (fun _ => 0)
  case atStart => rfl
  case round =>
    subst hrel
    go_wp2
    go_ret
    exact ⟨rfl, rfl⟩
set_option maxHeartbeats 400000 in
theorem containsNone_any (A : Option Addr) (c : Nat) (f : Value) (w : World) : Calls Tryz.prog 138 #[.slice A 0 c, f] w fun e w' => e = .returned (.bool false) ∧ w = w' := by
  go_enter Tryz.func138, Tryz.ntmps138
  go_wp2_with (go_at_call 152; refine (indexNone_any _ _ _ _).mono ?_; rintro e w2 ⟨rfl, rfl⟩)
  go_ret
  exact ⟨rfl, rfl⟩
theorem infoRule : (Tryz.prog.info? 156).map (fun i => (i.zero, i.size, i.bytes)) = some (some (.agg #[.int .i64 0, .string ⟨#[]⟩, .slice none 0 0, .slice none 0 0]), 4, 72) := by kernel_rfl
set_option maxRecDepth 100000 in
set_option maxHeartbeats 2000000 in
/-- the one rule lies in block b -/
theorem checkOne_any (A : Option Addr) (n c B b : Nat) (l : List ByteArray) (w : World) (h : Sl w B 1 A n (strs l)) (hB : B ≤ w.heap.size) (hn : n ≤ c) (hc : c ≤ maxLen) (hls : ∀ x ∈ l, x.size ≤ maxLen) (hk : Bk w b 156 #[.int .i64 1, .string nameA, .slice none 0 0, .slice A n c]) :
    Calls Tryz.prog 120 #[.slice (some ⟨b, 0, none⟩) 1 1] w fun e w' => e = .returned (.int .i64 (visE l)) ∧ Below w.heap.size w w' := by
  have H := Lib.hid h; have HLS := Lib.hid hls; have HK := Lib.hid hk
  clear h hls hk
  have u0 := HK.out.cell 0; have u1 := HK.out.cell 1; have u2 := HK.out.cell 2; have u3 := HK.out.cell 3
  simp only [List.getElem?_toArray, List.getElem?_cons_succ, List.getElem?_cons_zero] at u0 u1 u2 u3
  go_enter Tryz.func120, Tryz.ntmps120
  go_wp2
  go_loopw [11] (fun i wr => (i = .int .i64 0 ∧ wr = w) ∨ (i = .int .i64 1 ∧ Hid (visE l = 0) ∧ Hid (Below w.heap.size w wr))) (fun i _ => 1 - (intOf i).toNat)
  case atStart => exact .inl ⟨rfl, rfl⟩
  case round =>
    rcases hrel with ⟨rfl, rfl⟩ | ⟨rfl, hE, hBel⟩
    · have HB0 : Hid (Below wr.heap.size wr (wr.alloc (.cells #[.int .i64 1, .string nameA, .slice none 0 0, .slice A n c] 156))) := (Below.refl _ wr).alloc (Nat.le_refl _) _
      have HC := Lib.hid (checkRule_any A n c B l (wr.alloc (.cells #[.int .i64 1, .string nameA, .slice none 0 0, .slice A n c] 156)) (H.out.below HB0.out hB) (by simp; omega) hn hc HLS.out)
      have hsl : ∀ w' : World, (Instr.sliceAt 157 (.slice (some ⟨b, 0, none⟩) 1 1) none (some (.int .i64 0)) none).run Tryz.prog w' = .ok (.slice (some ⟨b, 0, none⟩) 0 1) w' := fun w' => by
        obtain ⟨i0, hi0, _⟩ := info_parts infoRule
        exact run_slice_to 157 i0 Tryz.underlying157 hi0 _ 1 1 0 (by omega) w'
      by_cases hv : visE l = 0
      · have HV := Lib.hid hv
        rw [hv] at HC
        clear hv
        go_wp2_with (go_at_call 137; refine HC.out.mono ?_; rintro e w2 ⟨rfl, hb2⟩; refine halt_ ?_)
        refine unhalt ?_
        have HB2 : Hid (Below wr.heap.size wr w2) := HB0.out.trans (hb2.mono (by simp))
        clear hb2
        go_wp2_with (go_at_call 138; refine (containsNone_any _ _ _ _).mono ?_; rintro e w3 ⟨rfl, rfl⟩)
        go_roundw
        case rel => exact .inr ⟨rfl, HV.out, HB2.out⟩
        case measure => simp [intOf]
      · have hv' : (visE l != 0) = true := by simpa using hv
        obtain ⟨v, hve⟩ : ∃ v, visE l = v := ⟨_, rfl⟩
        rw [hve] at HC hv'
        have HVE := Lib.hid hve
        clear hv hve
        go_wp2_with (go_at_call 137; refine HC.out.mono ?_; rintro e w2 ⟨rfl, hb2⟩)
        go_ret
        exact ⟨ret_int HVE.out.symm, HB0.out.trans (hb2.mono (by simp))⟩
    · go_wp2
      go_ret
      exact ⟨ret_int hE.out.symm, hBel.out⟩
end Go.Proofs.YtiphbincnnppdaaGreatDoor

namespace Go.Proofs.YtiphbincnnppdaaGreatDoor
open Go.RowKit

def putAll (a : Act) : List (Tmp × Value) → Act
  | [] => a
  | p :: r => putAll (a.put (some p.1) p.2) r

theorem put_put (a : Act) (d : Tmp) (v u : Value) : (a.put (some d) v).put (some d) u = a.put (some d) u := by
  simp [Act.put]
theorem putAll_put (a : Act) (d : Tmp) (v : Value) : ∀ (l : List (Tmp × Value)), (∀ p ∈ l, p.1 ≠ d) → putAll (a.put (some d) v) l = (putAll a l).put (some d) v
  | [], _ => rfl
  | p :: l, h => by
    have hne : p.1 ≠ d := h p (by simp)
    show putAll ((a.put (some d) v).put (some p.1) p.2) l = (putAll (a.put (some p.1) p.2) l).put (some d) v
    rw [Act.put_comm a v p.2 (x := some d) (y := some p.1) (fun x hx e => by cases hx; cases e; exact hne rfl)]
    exact putAll_put _ d v l (fun q hq => h q (by simp [hq]))
theorem putAll_set (a : Act) : ∀ (ds : List Tmp) (vs : List Value) (i : Nat) (d : Tmp) (v : Value), ds.Nodup → ds.length = vs.length → ds[i]? = some d →
    putAll a (ds.zip (vs.set i v)) = (putAll a (ds.zip vs)).put (some d) v
  | [], _, _, _, _, _, _, h => by simp at h
  | d0 :: ds, [], _, _, _, _, hl, _ => by simp at hl
  | d0 :: ds, v0 :: vs, 0, d, v, hn, hl, h => by
    simp only [List.getElem?_cons_zero, Option.some.injEq] at h; subst h
    have hnd := List.nodup_cons.1 hn
    have hm : ∀ p ∈ ds.zip vs, p.1 ≠ d0 := fun p hp e => hnd.1 (by have := (List.of_mem_zip hp).1; rwa [e] at this)
    show putAll (a.put (some d0) v) (ds.zip vs) = (putAll (a.put (some d0) v0) (ds.zip vs)).put (some d0) v
    rw [putAll_put _ _ _ _ hm, putAll_put _ _ _ _ hm, put_put]
  | d0 :: ds, v0 :: vs, i + 1, d, v, hn, hl, h => by
    simp only [List.getElem?_cons_succ] at h
    show putAll (a.put (some d0) v0) (ds.zip (vs.set i v)) = (putAll (a.put (some d0) v0) (ds.zip vs)).put (some d) v
    exact putAll_set _ ds vs i d v (List.nodup_cons.1 hn).2 (by simpa using hl) h
theorem put_same (a : Act) (d : Tmp) : a.put (some d) (a.tmps.getD d undef) = a := by
  show ({ a with tmps := a.tmps.setIfInBounds d (a.tmps.getD d undef) } : Act) = a
  have : a.tmps.setIfInBounds d (a.tmps.getD d undef) = a.tmps := ?_
  · rw [this]
  apply Array.ext
  · simp
  · intro i h1 h2
    rw [Array.getElem_setIfInBounds (by simpa using h2)]
    split
    · rename_i e; subst e; simp [show d < a.tmps.size by simpa using h2]
    · rfl
theorem putAll_same (a : Act) : ∀ (ds : List Tmp), putAll a (ds.zip (ds.map fun d => a.tmps.getD d undef)) = a
  | [] => rfl
  | d :: ds => by
    show putAll (a.put (some d) (a.tmps.getD d undef)) _ = a
    rw [put_same]; exact putAll_same a ds

variable {P : Program} {Q : Exit → Act → World → Prop}

/-- Whatever an operation does: it hands on a value and a world that meet Ψ. -/
def Gives (P : Program) (o : Oper) (a : Act) (w : World) (Ψ : Value → World → Prop) : Prop :=
  ∀ (K : Act → World → Prop) (Q : Exit → Act → World → Prop), (∀ v w', Ψ v w' → K (a.put o.dst v) w') → o.wp P a w K Q

theorem gives_value {o : Oper} {a : Act} {w w' : World} {v : Value} {Ψ : Value → World → Prop} (hr : (execOp a.eval o).run P w = .ok (.value v) w') (h : Ψ v w') : Gives P o a w Ψ := fun K Q hK => by
  unfold Oper.wp; rw [hr]; exact hK v w' h
theorem gives_call {o : Oper} {a : Act} {w : World} {f : FuncId} {args : Array Value} {Ψ : Value → World → Prop} (hr : (execOp a.eval o).run P w = .ok (.enter f args) w)
    (h : Calls P f args w fun e w' => ∃ v, e = .returned v ∧ Ψ v w') : Gives P o a w Ψ := fun K Q hK => by
  unfold Oper.wp; rw [hr]
  exact h.mono fun e w' ⟨v, he, hv⟩ => by subst he; exact hK v w' hv

theorem gives_append {o : Oper} {a : Act} {w w' : World} {r v u : Value} {Ψ : Value → World → Prop} (s x : Operand) (t : TypeId) (ho : o.op = .call { callee := .builtin .append, args := #[s, x], argTypes := #[t, t] })
    (hs : a.eval s = v) (hx : a.eval x = u) (hr : (Builtin.append_ #[t, t] o.type #[v, u]).run P w = .ok r w') (h : Ψ r w') : Gives P o a w Ψ :=
  gives_value (v := r) (w' := w') (by simp [execOp, ho, resolve, invoke, builtin, hs, hx, hr, Result.andThen]) h

def dstsOf (l : List Oper) (n : Nat) : List Tmp := (l.take n).map fun o => o.dst.getD 0
def fullL (l : List Oper) (n : Nat) : Array Bool := ((List.range l.length).map fun i => decide (i < n)).toArray
def stableB (l : List Oper) (n : Nat) : Bool :=
  decide (n < l.length) && Region.sinkB .any l.toArray n && Region.chainB .any l.toArray n && Region.seqB .any l.toArray (l.length - n) n (fullL l n) &&
  (l.take n).all (fun o => o.dst.isSome && o.guard.isNone) && decide (dstsOf l n).Nodup && (List.range n).all (fun i => match l[i]? with | some o => o.after.all (fun e => decide (e.on < i)) | none => false)

theorem count_set_lt {l : List Bool} {i : Nat} (h : l[i]? = some false) : (l.set i true).count false + 1 = l.count false := by
  induction l generalizing i with
  | nil => simp at h
  | cons b l ih =>
    cases i with
    | zero => simp only [List.getElem?_cons_zero, Option.some.injEq] at h; subst h; simp
    | succ i =>
      simp only [List.getElem?_cons_succ] at h
      have := ih h
      cases b <;> simp [List.set_cons_succ] <;> omega

set_option maxHeartbeats 400000 in
theorem wp_region_stable {id : Nat} {l : List Oper} {a0 : Act} {w0 : World} (n : Nat) (hm : P.follows .mixedOrders = true) (hB : stableB l n = true)
    (R : World → Prop) (E : World → World → Prop) (Φ : Nat → Value → World → Prop) (hR : ∀ w w', R w → E w w' → R w') (hΦ : ∀ i v w w', Φ i v w → E w w' → Φ i v w')
    (h0 : R { w0 with drawn := w0.drawn + 1 })
    (hstep : ∀ (i : Nat) (o : Oper) (vs : List Value) (w : World), i < n → l[i]? = some o → vs.length = n → R w → (∀ e ∈ o.after, Region.binds .any e = true → ∀ v, vs[e.on]? = some v → Φ e.on v w) →
      Gives P o (putAll a0 ((dstsOf l n).zip vs)) w fun v w' => E w w' ∧ Φ i v w')
    (htail : ∀ (vs : List Value) (w : World), vs.length = n → R w → (∀ i v, vs[i]? = some v → Φ i v w) → wpList P l.toArray Q (l.drop n) (putAll a0 ((dstsOf l n).zip vs)) w) :
    (Code.region id l.toArray true).wp P Q a0 w0 := by
  simp only [stableB, Bool.and_eq_true, decide_eq_true_eq, List.all_eq_true] at hB
  obtain ⟨⟨⟨⟨⟨⟨hn, hs⟩, hc⟩, hseq⟩, hdst⟩, hnd⟩, hback⟩ := hB
  have hdl : (dstsOf l n).length = n := by simp [dstsOf]; omega
  refine wp_region_any hm ?_
  -- the state: which operations have been carried out, what the temporaries hold
  have main : ∀ (f : Nat) (listed : Array Bool) (vs : List Value) (w : World), HeadInv .any l.toArray n listed → vs.length = n → R w →
      (∀ i v, i < n → listed.getD i false = true → vs[i]? = some v → Φ i v w) → (listed.toList.take n).count false = f →
      wpAny P .any l.toArray Q (f + (l.length - n)) listed (putAll a0 ((dstsOf l n).zip vs)) w := by
    intro f
    induction f with
    | zero =>
      intro listed vs w inv hv hw hphi hcnt
      have hall : ∀ i, i < n → listed.getD i false = true := by
        intro i hi
        have hsz : i < listed.size := by rw [inv.size]; simp; omega
        have hmem : listed.toList[i]? = some listed[i] := by simp [hsz]
        have hne : listed[i] ≠ false := by
          intro e
          have hm2 : false ∈ listed.toList.take n := by
            rw [List.mem_take_iff_getElem]
            exact ⟨i, by simp; omega, by simpa using e⟩
          have := List.count_pos_iff.2 hm2
          omega
        simp [hsz]; simpa using hne
      have hfull : listed = fullL l n := by
        apply Array.ext
        · rw [inv.size]; simp [fullL]
        · intro i h1 h2
          have hil : i < l.length := by rw [inv.size] at h1; simpa using h1
          simp only [fullL, List.getElem_toArray, List.getElem_map, List.getElem_range]
          by_cases hi : i < n
          · have := hall i hi; simp [h1] at this; simp [this, hi]
          · have := inv.tail i (by omega) (by simpa using hil); simp [h1] at this; simp [this, hi]
      subst hfull
      have hw' := htail vs w hv hw (fun i v hi => hphi i v (by have := (List.getElem?_eq_some_iff.1 hi).1; omega) (hall i (by have := (List.getElem?_eq_some_iff.1 hi).1; omega)) hi)
      have := wpAny_of_seq (md := .any) (Q' := Q) (l.drop n) n (fullL l n) _ w (fun j => by simp [List.getElem?_drop]) (by rw [List.length_drop]; exact hseq) hw'
      rw [List.length_drop] at this
      simpa using this
    | succ f ih =>
      intro listed vs w inv hv hw hphi hcnt
      have hun : ∃ i, i < n ∧ listed.getD i true = false := by
        have : 0 < (listed.toList.take n).count false := by omega
        have hm2 := List.count_pos_iff.1 this
        rw [List.mem_take_iff_getElem] at hm2
        obtain ⟨i, hi, hv2⟩ := hm2
        refine ⟨i, by simp at hi; omega, ?_⟩
        have hsz : i < listed.size := by simp at hi; omega
        rw [Array.getD_eq_getD_getElem?, Array.getElem?_eq_getElem hsz]; simpa using hv2
      rw [show f + 1 + (l.length - n) = (f + (l.length - n)) + 1 by omega]
      obtain ⟨i0, hi0, hu0⟩ := hun
      have hready_lt : ∀ i ∈ Region.ready .any l.toArray listed, i < n := by
        intro i hi
        rcases Nat.lt_or_ge i n with h | h
        · exact h
        · exact absurd hi (tail_waits hs hc (by simpa using hn) inv _ i0 rfl hi0 hu0 i h)
      have hne : Region.ready .any l.toArray listed ≠ [] := by
        -- the first operation that is not yet carried out and whose own conditions are all met: by the least such index
        intro hnil
        obtain ⟨m, hm1, hm2⟩ : ∃ m, (m < n ∧ listed.getD m true = false) ∧ ∀ k, k < m → ¬ (k < n ∧ listed.getD k true = false) := by
          have : ∀ m, (m < n ∧ listed.getD m true = false) → ∃ m, (m < n ∧ listed.getD m true = false) ∧ ∀ k, k < m → ¬ (k < n ∧ listed.getD k true = false) := by
            intro m
            induction m using Nat.strongRecOn with
            | _ m ihm =>
              intro h
              by_cases hex : ∃ k, k < m ∧ (k < n ∧ listed.getD k true = false)
              · obtain ⟨k, hk, hk2⟩ := hex; exact ihm k hk hk2
              · exact ⟨m, h, fun k hk hk2 => hex ⟨k, hk, hk2⟩⟩
          exact this i0 ⟨hi0, hu0⟩
        have hml : m < l.length := by omega
        have hmo : l[m]? = some l[m] := List.getElem?_eq_getElem hml
        have hb1 := hback m (List.mem_range.2 hm1.1)
        rw [hmo] at hb1
        simp only at hb1
        have hmr : m ∈ Region.ready .any l.toArray listed := by
          refine mem_ready.2 ⟨hm1.2, l[m], by simp, fun e he _ => ?_⟩
          have hlt : e.on < m := by
            have := (Array.all_eq_true_iff_forall_mem.1 hb1) e he
            simpa using this
          have hnot := hm2 e.on hlt
          cases hx : listed.getD e.on true with
          | true =>
            have hsz : e.on < listed.size := by rw [inv.size]; simp; omega
            simp [hsz] at hx ⊢; exact hx
          | false => exact absurd ⟨by omega, hx⟩ hnot
        rw [hnil] at hmr; cases hmr
      refine ⟨fun h => absurd h hne, fun i hi => ?_⟩
      have hin := hready_lt i hi
      obtain ⟨hlf, o, ho, hdeps⟩ := mem_ready.1 hi
      have ho' : l[i]? = some o := by simpa using ho
      have hmem : o ∈ l.take n := List.mem_take_iff_getElem.2 ⟨i, (by have := (List.getElem?_eq_some_iff.1 ho').1; omega), (List.getElem?_eq_some_iff.1 ho').2⟩
      have hdo := hdst o hmem
      obtain ⟨d, hd⟩ := Option.isSome_iff_exists.1 hdo.1
      have hg : o.guard = none := by simpa using hdo.2
      have hdi : (dstsOf l n)[i]? = some d := by
        simp [dstsOf, hin, ho', hd]
      have hgive := hstep i o vs w hin ho' hv hw (fun e he hb v hve => by
        have hle := hdeps e he hb
        have hen : e.on < n := by have := (List.getElem?_eq_some_iff.1 hve).1; omega
        exact hphi e.on v hen hle hve)
      unfold wpOp
      simp only [ho, Region.wanted, hg, if_true]
      refine .inl (hgive _ _ fun v w' hvw => ?_)
      rw [hd, ← putAll_set a0 (dstsOf l n) vs i d v hnd (by rw [hdl, hv]) hdi]
      have hsz : i < listed.size := by rw [inv.size]; simp; omega
      have hli : listed.toList[i]? = some false := by
        simp [hsz] at hlf ⊢; exact hlf
      refine ih (listed.setIfInBounds i true) (vs.set i v) w' (inv.set hi hin) (by simpa using hv) (hR w w' hw hvw.1) ?_ ?_
      · intro j u hj hlj huj
        by_cases e : j = i
        · subst e
          have hjl : j < vs.length := by omega
          rw [List.getElem?_set_self hjl] at huj
          cases huj; exact hvw.2
        · rw [List.getElem?_set_ne (fun h => e h.symm)] at huj
          rw [getD_set_ne false (fun h => e h.symm)] at hlj
          exact hΦ j u w w' (hphi j u hj hlj huj) hvw.1
      · have : (listed.setIfInBounds i true).toList.take n = (listed.toList.take n).set i true := by
          rw [Array.toList_setIfInBounds, List.take_set]
        rw [this]
        have h2 := count_set_lt (l := listed.toList.take n) (i := i) (by rw [List.getElem?_take, if_pos hin]; exact hli)
        omega
  have inv0 : HeadInv .any l.toArray n (Array.replicate l.toArray.size false) :=
    ⟨by simp, fun j oj _ hl => (by rw [getD_replicate_false] at hl; cases hl), fun t _ ht => getD_in (by simpa using ht) (getD_replicate_false _ _)⟩
  have := main n (Array.replicate l.toArray.size false) ((dstsOf l n).map fun d => a0.tmps.getD d undef) _ inv0 (by simpa using hdl) h0
    (fun i v _ hl _ => by rw [getD_replicate_false] at hl; cases hl) (by simp; omega)
  rw [putAll_same, show n + (l.length - n) = l.toArray.size by simp; omega] at this
  exact this
theorem wp_region_stableD {id : Nat} {l : List Oper} {a0 : Act} {w0 : World} (n : Nat) (ds : List Tmp) (hm : P.follows .mixedOrders = true) (hB : stableB l n = true) (hds : dstsOf l n = ds)
    (R : World → Prop) (E : World → World → Prop) (Φ : Nat → Value → World → Prop) (hR : ∀ w w', R w → E w w' → R w') (hΦ : ∀ i v w w', Φ i v w → E w w' → Φ i v w')
    (h0 : R w0.drew)
    (hstep : ∀ (i : Nat) (o : Oper) (vs : List Value) (w : World), i < n → l[i]? = some o → vs.length = n → R w → (∀ e ∈ o.after, Region.binds .any e = true → ∀ v, vs[e.on]? = some v → Φ e.on v w) →
      Gives P o (putAll a0 (ds.zip vs)) w fun v w' => E w w' ∧ Φ i v w')
    (htail : ∀ (vs : List Value) (w : World), vs.length = n → R w → (∀ i v, vs[i]? = some v → Φ i v w) → wpList P l.toArray Q (l.drop n) (putAll a0 (ds.zip vs)) w) :
    (Code.region id l.toArray true).wp P Q a0 w0 := by
  subst hds
  exact wp_region_stable n hm hB R E Φ hR hΦ h0 hstep htail
end Go.Proofs.YtiphbincnnppdaaGreatDoor

namespace Go.Proofs.YtiphbincnnppdaaGreatDoor
open Go.RowKit
variable {P : Program} {Q : Exit → Act → World → Prop}

/-- An operation is wanted and hands on what meets Ψ, or it is not wanted, and what stands for its value meets Ψ. -/
def GivesG (P : Program) (ops : Array Oper) (o : Oper) (a : Act) (w : World) (Ψ : Value → World → Prop) : Prop :=
  (Region.wanted o (yielded ops a.tmps) = true ∧ Gives P o a w Ψ) ∨ (Region.wanted o (yielded ops a.tmps) = false ∧ Ψ undef w)
def stableGB (l : List Oper) (n : Nat) : Bool :=
  decide (n < l.length) && Region.sinkB .any l.toArray n && Region.chainB .any l.toArray n && Region.seqB .any l.toArray (l.length - n) n (fullL l n) &&
  (l.take n).all (fun o => o.dst.isSome) && decide (dstsOf l n).Nodup && (List.range n).all (fun i => match l[i]? with | some o => o.after.all (fun e => decide (e.on < i)) | none => false)

set_option maxHeartbeats 400000 in
theorem wp_region_stableG {id : Nat} {l : List Oper} {a0 : Act} {w0 : World} (n : Nat) (hm : P.follows .mixedOrders = true) (hB : stableGB l n = true)
    (R : World → Prop) (E : World → World → Prop) (Φ : Nat → Value → World → Prop) (hR : ∀ w w', R w → E w w' → R w') (hΦ : ∀ i v w w', Φ i v w → E w w' → Φ i v w')
    (h0 : R { w0 with drawn := w0.drawn + 1 })
    (hstep : ∀ (i : Nat) (o : Oper) (vs : List Value) (w : World), i < n → l[i]? = some o → vs.length = n → R w → (∀ e ∈ o.after, Region.binds .any e = true → ∀ v, vs[e.on]? = some v → Φ e.on v w) →
      GivesG P l.toArray o (putAll a0 ((dstsOf l n).zip vs)) w fun v w' => E w w' ∧ Φ i v w')
    (htail : ∀ (vs : List Value) (w : World), vs.length = n → R w → (∀ i v, vs[i]? = some v → Φ i v w) → wpList P l.toArray Q (l.drop n) (putAll a0 ((dstsOf l n).zip vs)) w) :
    (Code.region id l.toArray true).wp P Q a0 w0 := by
  simp only [stableGB, Bool.and_eq_true, decide_eq_true_eq, List.all_eq_true] at hB
  obtain ⟨⟨⟨⟨⟨⟨hn, hs⟩, hc⟩, hseq⟩, hdst⟩, hnd⟩, hback⟩ := hB
  have hdl : (dstsOf l n).length = n := by simp [dstsOf]; omega
  refine wp_region_any hm ?_
  -- the state: which operations have been carried out, what the temporaries hold
  have main : ∀ (f : Nat) (listed : Array Bool) (vs : List Value) (w : World), HeadInv .any l.toArray n listed → vs.length = n → R w →
      (∀ i v, i < n → listed.getD i false = true → vs[i]? = some v → Φ i v w) → (listed.toList.take n).count false = f →
      wpAny P .any l.toArray Q (f + (l.length - n)) listed (putAll a0 ((dstsOf l n).zip vs)) w := by
    intro f
    induction f with
    | zero =>
      intro listed vs w inv hv hw hphi hcnt
      have hall : ∀ i, i < n → listed.getD i false = true := by
        intro i hi
        have hsz : i < listed.size := by rw [inv.size]; simp; omega
        have hmem : listed.toList[i]? = some listed[i] := by simp [hsz]
        have hne : listed[i] ≠ false := by
          intro e
          have hm2 : false ∈ listed.toList.take n := by
            rw [List.mem_take_iff_getElem]
            exact ⟨i, by simp; omega, by simpa using e⟩
          have := List.count_pos_iff.2 hm2
          omega
        simp [hsz]; simpa using hne
      have hfull : listed = fullL l n := by
        apply Array.ext
        · rw [inv.size]; simp [fullL]
        · intro i h1 h2
          have hil : i < l.length := by rw [inv.size] at h1; simpa using h1
          simp only [fullL, List.getElem_toArray, List.getElem_map, List.getElem_range]
          by_cases hi : i < n
          · have := hall i hi; simp [h1] at this; simp [this, hi]
          · have := inv.tail i (by omega) (by simpa using hil); simp [h1] at this; simp [this, hi]
      subst hfull
      have hw' := htail vs w hv hw (fun i v hi => hphi i v (by have := (List.getElem?_eq_some_iff.1 hi).1; omega) (hall i (by have := (List.getElem?_eq_some_iff.1 hi).1; omega)) hi)
      have := wpAny_of_seq (md := .any) (Q' := Q) (l.drop n) n (fullL l n) _ w (fun j => by simp [List.getElem?_drop]) (by rw [List.length_drop]; exact hseq) hw'
      rw [List.length_drop] at this
      simpa using this
    | succ f ih =>
      intro listed vs w inv hv hw hphi hcnt
      have hun : ∃ i, i < n ∧ listed.getD i true = false := by
        have : 0 < (listed.toList.take n).count false := by omega
        have hm2 := List.count_pos_iff.1 this
        rw [List.mem_take_iff_getElem] at hm2
        obtain ⟨i, hi, hv2⟩ := hm2
        refine ⟨i, by simp at hi; omega, ?_⟩
        have hsz : i < listed.size := by simp at hi; omega
        rw [Array.getD_eq_getD_getElem?, Array.getElem?_eq_getElem hsz]; simpa using hv2
      rw [show f + 1 + (l.length - n) = (f + (l.length - n)) + 1 by omega]
      obtain ⟨i0, hi0, hu0⟩ := hun
      have hready_lt : ∀ i ∈ Region.ready .any l.toArray listed, i < n := by
        intro i hi
        rcases Nat.lt_or_ge i n with h | h
        · exact h
        · exact absurd hi (tail_waits hs hc (by simpa using hn) inv _ i0 rfl hi0 hu0 i h)
      have hne : Region.ready .any l.toArray listed ≠ [] := by
        -- the first operation that is not yet carried out and whose own conditions are all met: by the least such index
        intro hnil
        obtain ⟨m, hm1, hm2⟩ : ∃ m, (m < n ∧ listed.getD m true = false) ∧ ∀ k, k < m → ¬ (k < n ∧ listed.getD k true = false) := by
          have : ∀ m, (m < n ∧ listed.getD m true = false) → ∃ m, (m < n ∧ listed.getD m true = false) ∧ ∀ k, k < m → ¬ (k < n ∧ listed.getD k true = false) := by
            intro m
            induction m using Nat.strongRecOn with
            | _ m ihm =>
              intro h
              by_cases hex : ∃ k, k < m ∧ (k < n ∧ listed.getD k true = false)
              · obtain ⟨k, hk, hk2⟩ := hex; exact ihm k hk hk2
              · exact ⟨m, h, fun k hk hk2 => hex ⟨k, hk, hk2⟩⟩
          exact this i0 ⟨hi0, hu0⟩
        have hml : m < l.length := by omega
        have hmo : l[m]? = some l[m] := List.getElem?_eq_getElem hml
        have hb1 := hback m (List.mem_range.2 hm1.1)
        rw [hmo] at hb1
        simp only at hb1
        have hmr : m ∈ Region.ready .any l.toArray listed := by
          refine mem_ready.2 ⟨hm1.2, l[m], by simp, fun e he _ => ?_⟩
          have hlt : e.on < m := by
            have := (Array.all_eq_true_iff_forall_mem.1 hb1) e he
            simpa using this
          have hnot := hm2 e.on hlt
          cases hx : listed.getD e.on true with
          | true =>
            have hsz : e.on < listed.size := by rw [inv.size]; simp; omega
            simp [hsz] at hx ⊢; exact hx
          | false => exact absurd ⟨by omega, hx⟩ hnot
        rw [hnil] at hmr; cases hmr
      refine ⟨fun h => absurd h hne, fun i hi => ?_⟩
      have hin := hready_lt i hi
      obtain ⟨hlf, o, ho, hdeps⟩ := mem_ready.1 hi
      have ho' : l[i]? = some o := by simpa using ho
      have hmem : o ∈ l.take n := List.mem_take_iff_getElem.2 ⟨i, (by have := (List.getElem?_eq_some_iff.1 ho').1; omega), (List.getElem?_eq_some_iff.1 ho').2⟩
      have hdo := hdst o hmem
      obtain ⟨d, hd⟩ := Option.isSome_iff_exists.1 hdo
      have hdi : (dstsOf l n)[i]? = some d := by
        simp [dstsOf, hin, ho', hd]
      have hgive := hstep i o vs w hin ho' hv hw (fun e he hb v hve => by
        have hle := hdeps e he hb
        have hen : e.on < n := by have := (List.getElem?_eq_some_iff.1 hve).1; omega
        exact hphi e.on v hen hle hve)
      have hgo : ∀ v w', (E w w' ∧ Φ i v w') → wpAny P .any l.toArray Q (f + (l.length - n)) (listed.setIfInBounds i true) ((putAll a0 ((dstsOf l n).zip vs)).put o.dst v) w' := ?hgo
      case hgo =>
        intro v w' hvw
        rw [hd, ← putAll_set a0 (dstsOf l n) vs i d v hnd (by rw [hdl, hv]) hdi]
        have hsz : i < listed.size := by rw [inv.size]; simp; omega
        have hli : listed.toList[i]? = some false := by
          simp [hsz] at hlf ⊢; exact hlf
        refine ih (listed.setIfInBounds i true) (vs.set i v) w' (inv.set hi hin) (by simpa using hv) (hR w w' hw hvw.1) ?_ ?_
        · intro j u hj hlj huj
          by_cases e : j = i
          · subst e
            have hjl : j < vs.length := by omega
            rw [List.getElem?_set_self hjl] at huj
            cases huj; exact hvw.2
          · rw [List.getElem?_set_ne (fun h => e h.symm)] at huj
            rw [getD_set_ne false (fun h => e h.symm)] at hlj
            exact hΦ j u w w' (hphi j u hj hlj huj) hvw.1
        · have : (listed.setIfInBounds i true).toList.take n = (listed.toList.take n).set i true := by
            rw [Array.toList_setIfInBounds, List.take_set]
          rw [this]
          have h2 := count_set_lt (l := listed.toList.take n) (i := i) (by rw [List.getElem?_take, if_pos hin]; exact hli)
          omega
      unfold wpOp
      simp only [ho]
      rcases hgive with ⟨hw1, hw2⟩ | ⟨hw1, hw2⟩
      · rw [if_pos hw1]
        exact .inl (hw2 _ _ hgo)
      · rw [if_neg (by rw [hw1]; simp)]
        exact hgo undef w hw2
  have inv0 : HeadInv .any l.toArray n (Array.replicate l.toArray.size false) :=
    ⟨by simp, fun j oj _ hl => (by rw [getD_replicate_false] at hl; cases hl), fun t _ ht => getD_in (by simpa using ht) (getD_replicate_false _ _)⟩
  have := main n (Array.replicate l.toArray.size false) ((dstsOf l n).map fun d => a0.tmps.getD d undef) _ inv0 (by simpa using hdl) h0
    (fun i v _ hl _ => by rw [getD_replicate_false] at hl; cases hl) (by simp; omega)
  rw [putAll_same, show n + (l.length - n) = l.toArray.size by simp; omega] at this
  exact this
theorem wp_region_stableGD {id : Nat} {l : List Oper} {a0 : Act} {w0 : World} (n : Nat) (ds : List Tmp) (hm : P.follows .mixedOrders = true) (hB : stableGB l n = true) (hds : dstsOf l n = ds)
    (R : World → Prop) (E : World → World → Prop) (Φ : Nat → Value → World → Prop) (hR : ∀ w w', R w → E w w' → R w') (hΦ : ∀ i v w w', Φ i v w → E w w' → Φ i v w')
    (h0 : R w0.drew)
    (hstep : ∀ (i : Nat) (o : Oper) (vs : List Value) (w : World), i < n → l[i]? = some o → vs.length = n → R w → (∀ e ∈ o.after, Region.binds .any e = true → ∀ v, vs[e.on]? = some v → Φ e.on v w) →
      GivesG P l.toArray o (putAll a0 (ds.zip vs)) w fun v w' => E w w' ∧ Φ i v w')
    (htail : ∀ (vs : List Value) (w : World), vs.length = n → R w → (∀ i v, vs[i]? = some v → Φ i v w) → wpList P l.toArray Q (l.drop n) (putAll a0 (ds.zip vs)) w) :
    (Code.region id l.toArray true).wp P Q a0 w0 := by
  subst hds
  exact wp_region_stableG n hm hB R E Φ hR hΦ h0 hstep htail
/-- what each operation hands on, where nothing but new memory turns -/
def vPhi (vals : List Value) (i : Nat) (v : Value) (_ : World) : Prop := ∀ u, vals[i]? = some u → v = u
theorem list6 {vs : List Value} (h : vs.length = 6) : ∃ v0 v1 v2 v3 v4 v5, vs = [v0, v1, v2, v3, v4, v5] := by
  match vs, h with
  | [v0, v1, v2, v3, v4, v5], _ => exact ⟨_, _, _, _, _, _, rfl⟩
theorem list7 {vs : List Value} (h : vs.length = 7) : ∃ v0 v1 v2 v3 v4 v5 v6, vs = [v0, v1, v2, v3, v4, v5, v6] := by
  match vs, h with
  | [v0, v1, v2, v3, v4, v5, v6], _ => exact ⟨_, _, _, _, _, _, _, rfl⟩
theorem list8 {vs : List Value} (h : vs.length = 8) : ∃ v0 v1 v2 v3 v4 v5 v6 v7, vs = [v0, v1, v2, v3, v4, v5, v6, v7] := by
  match vs, h with
  | [v0, v1, v2, v3, v4, v5, v6, v7], _ => exact ⟨_, _, _, _, _, _, _, _, rfl⟩
theorem list9 {vs : List Value} (h : vs.length = 9) : ∃ v0 v1 v2 v3 v4 v5 v6 v7 v8, vs = [v0, v1, v2, v3, v4, v5, v6, v7, v8] := by
  match vs, h with
  | [v0, v1, v2, v3, v4, v5, v6, v7, v8], _ => exact ⟨_, _, _, _, _, _, _, _, _, rfl⟩
theorem list10 {vs : List Value} (h : vs.length = 10) : ∃ v0 v1 v2 v3 v4 v5 v6 v7 v8 v9, vs = [v0, v1, v2, v3, v4, v5, v6, v7, v8, v9] := by
  match vs, h with
  | [v0, v1, v2, v3, v4, v5, v6, v7, v8, v9], _ => exact ⟨_, _, _, _, _, _, _, _, _, _, rfl⟩
theorem list11 {vs : List Value} (h : vs.length = 11) : ∃ v0 v1 v2 v3 v4 v5 v6 v7 v8 v9 v10, vs = [v0, v1, v2, v3, v4, v5, v6, v7, v8, v9, v10] := by
  match vs, h with
  | [v0, v1, v2, v3, v4, v5, v6, v7, v8, v9, v10], _ => exact ⟨_, _, _, _, _, _, _, _, _, _, _, rfl⟩
theorem list12 {vs : List Value} (h : vs.length = 12) : ∃ v0 v1 v2 v3 v4 v5 v6 v7 v8 v9 v10 v11, vs = [v0, v1, v2, v3, v4, v5, v6, v7, v8, v9, v10, v11] := by
  match vs, h with
  | [v0, v1, v2, v3, v4, v5, v6, v7, v8, v9, v10, v11], _ => exact ⟨_, _, _, _, _, _, _, _, _, _, _, _, rfl⟩
theorem list13 {vs : List Value} (h : vs.length = 13) : ∃ v0 v1 v2 v3 v4 v5 v6 v7 v8 v9 v10 v11 v12, vs = [v0, v1, v2, v3, v4, v5, v6, v7, v8, v9, v10, v11, v12] := by
  match vs, h with
  | [v0, v1, v2, v3, v4, v5, v6, v7, v8, v9, v10, v11, v12], _ => exact ⟨_, _, _, _, _, _, _, _, _, _, _, _, _, rfl⟩
theorem list14 {vs : List Value} (h : vs.length = 14) : ∃ v0 v1 v2 v3 v4 v5 v6 v7 v8 v9 v10 v11 v12 v13, vs = [v0, v1, v2, v3, v4, v5, v6, v7, v8, v9, v10, v11, v12, v13] := by
  match vs, h with
  | [v0, v1, v2, v3, v4, v5, v6, v7, v8, v9, v10, v11, v12, v13], _ => exact ⟨_, _, _, _, _, _, _, _, _, _, _, _, _, _, rfl⟩
theorem list15 {vs : List Value} (h : vs.length = 15) : ∃ v0 v1 v2 v3 v4 v5 v6 v7 v8 v9 v10 v11 v12 v13 v14, vs = [v0, v1, v2, v3, v4, v5, v6, v7, v8, v9, v10, v11, v12, v13, v14] := by
  match vs, h with
  | [v0, v1, v2, v3, v4, v5, v6, v7, v8, v9, v10, v11, v12, v13, v14], _ => exact ⟨_, _, _, _, _, _, _, _, _, _, _, _, _, _, _, rfl⟩
theorem list16 {vs : List Value} (h : vs.length = 16) : ∃ v0 v1 v2 v3 v4 v5 v6 v7 v8 v9 v10 v11 v12 v13 v14 v15, vs = [v0, v1, v2, v3, v4, v5, v6, v7, v8, v9, v10, v11, v12, v13, v14, v15] := by
  match vs, h with
  | [v0, v1, v2, v3, v4, v5, v6, v7, v8, v9, v10, v11, v12, v13, v14, v15], _ => exact ⟨_, _, _, _, _, _, _, _, _, _, _, _, _, _, _, _, rfl⟩
theorem list17 {vs : List Value} (h : vs.length = 17) : ∃ v0 v1 v2 v3 v4 v5 v6 v7 v8 v9 v10 v11 v12 v13 v14 v15 v16, vs = [v0, v1, v2, v3, v4, v5, v6, v7, v8, v9, v10, v11, v12, v13, v14, v15, v16] := by
  match vs, h with
  | [v0, v1, v2, v3, v4, v5, v6, v7, v8, v9, v10, v11, v12, v13, v14, v15, v16], _ => exact ⟨_, _, _, _, _, _, _, _, _, _, _, _, _, _, _, _, _, rfl⟩
theorem list18 {vs : List Value} (h : vs.length = 18) : ∃ v0 v1 v2 v3 v4 v5 v6 v7 v8 v9 v10 v11 v12 v13 v14 v15 v16 v17, vs = [v0, v1, v2, v3, v4, v5, v6, v7, v8, v9, v10, v11, v12, v13, v14, v15, v16, v17] := by
  match vs, h with
  | [v0, v1, v2, v3, v4, v5, v6, v7, v8, v9, v10, v11, v12, v13, v14, v15, v16, v17], _ => exact ⟨_, _, _, _, _, _, _, _, _, _, _, _, _, _, _, _, _, _, rfl⟩
theorem list19 {vs : List Value} (h : vs.length = 19) : ∃ v0 v1 v2 v3 v4 v5 v6 v7 v8 v9 v10 v11 v12 v13 v14 v15 v16 v17 v18, vs = [v0, v1, v2, v3, v4, v5, v6, v7, v8, v9, v10, v11, v12, v13, v14, v15, v16, v17, v18] := by
  match vs, h with
  | [v0, v1, v2, v3, v4, v5, v6, v7, v8, v9, v10, v11, v12, v13, v14, v15, v16, v17, v18], _ => exact ⟨_, _, _, _, _, _, _, _, _, _, _, _, _, _, _, _, _, _, _, rfl⟩
theorem list20 {vs : List Value} (h : vs.length = 20) : ∃ v0 v1 v2 v3 v4 v5 v6 v7 v8 v9 v10 v11 v12 v13 v14 v15 v16 v17 v18 v19, vs = [v0, v1, v2, v3, v4, v5, v6, v7, v8, v9, v10, v11, v12, v13, v14, v15, v16, v17, v18, v19] := by
  match vs, h with
  | [v0, v1, v2, v3, v4, v5, v6, v7, v8, v9, v10, v11, v12, v13, v14, v15, v16, v17, v18, v19], _ => exact ⟨_, _, _, _, _, _, _, _, _, _, _, _, _, _, _, _, _, _, _, _, rfl⟩
theorem list21 {vs : List Value} (h : vs.length = 21) : ∃ v0 v1 v2 v3 v4 v5 v6 v7 v8 v9 v10 v11 v12 v13 v14 v15 v16 v17 v18 v19 v20, vs = [v0, v1, v2, v3, v4, v5, v6, v7, v8, v9, v10, v11, v12, v13, v14, v15, v16, v17, v18, v19, v20] := by
  match vs, h with
  | [v0, v1, v2, v3, v4, v5, v6, v7, v8, v9, v10, v11, v12, v13, v14, v15, v16, v17, v18, v19, v20], _ => exact ⟨_, _, _, _, _, _, _, _, _, _, _, _, _, _, _, _, _, _, _, _, _, rfl⟩
theorem list22 {vs : List Value} (h : vs.length = 22) : ∃ v0 v1 v2 v3 v4 v5 v6 v7 v8 v9 v10 v11 v12 v13 v14 v15 v16 v17 v18 v19 v20 v21, vs = [v0, v1, v2, v3, v4, v5, v6, v7, v8, v9, v10, v11, v12, v13, v14, v15, v16, v17, v18, v19, v20, v21] := by
  match vs, h with
  | [v0, v1, v2, v3, v4, v5, v6, v7, v8, v9, v10, v11, v12, v13, v14, v15, v16, v17, v18, v19, v20, v21], _ => exact ⟨_, _, _, _, _, _, _, _, _, _, _, _, _, _, _, _, _, _, _, _, _, _, rfl⟩
theorem list23 {vs : List Value} (h : vs.length = 23) : ∃ v0 v1 v2 v3 v4 v5 v6 v7 v8 v9 v10 v11 v12 v13 v14 v15 v16 v17 v18 v19 v20 v21 v22, vs = [v0, v1, v2, v3, v4, v5, v6, v7, v8, v9, v10, v11, v12, v13, v14, v15, v16, v17, v18, v19, v20, v21, v22] := by
  match vs, h with
  | [v0, v1, v2, v3, v4, v5, v6, v7, v8, v9, v10, v11, v12, v13, v14, v15, v16, v17, v18, v19, v20, v21, v22], _ => exact ⟨_, _, _, _, _, _, _, _, _, _, _, _, _, _, _, _, _, _, _, _, _, _, _, rfl⟩
theorem list24 {vs : List Value} (h : vs.length = 24) : ∃ v0 v1 v2 v3 v4 v5 v6 v7 v8 v9 v10 v11 v12 v13 v14 v15 v16 v17 v18 v19 v20 v21 v22 v23, vs = [v0, v1, v2, v3, v4, v5, v6, v7, v8, v9, v10, v11, v12, v13, v14, v15, v16, v17, v18, v19, v20, v21, v22, v23] := by
  match vs, h with
  | [v0, v1, v2, v3, v4, v5, v6, v7, v8, v9, v10, v11, v12, v13, v14, v15, v16, v17, v18, v19, v20, v21, v22, v23], _ => exact ⟨_, _, _, _, _, _, _, _, _, _, _, _, _, _, _, _, _, _, _, _, _, _, _, _, rfl⟩
end Go.Proofs.YtiphbincnnppdaaGreatDoor

namespace Go.Proofs.YtiphbincnnppdaaGreatDoor
open Go.RowKit Go.Maps

def kindOf (ts : List Tg) (d : ByteArray) : Int := match findT ts d with
  | none => 0
  | some t => t.kind
/-- A target that may be in a graph. -/
structure TOk (ts : List Tg) (t : Tg) : Prop where
  lab : labB t.lab = true
  kind : t.kind = 1 ∨ t.kind = 2
  few : t.deps.length ≤ 20
  dep : ∀ d ∈ t.deps, kindOf ts d = 1
  nod : t.deps.Nodup
  vis : visE t.vis = 0
/-- A valid graph. -/
structure Vld (ts : List Tg) : Prop where
  few : ts.length ≤ 100
  all : ∀ t ∈ ts, TOk ts t
  asc : Asc (ts.map Tg.lab)
  free : ∀ s, ¬ Rch (nxT ts) s s
/-- the first k targets are all right -/
def Upto (ts : List Tg) (k : Nat) : Prop := ∀ j t, j < k → ts[j]? = some t → TOk ts t ∧ ∀ p, 0 < j → ts[j - 1]? = some p → less p.lab t.lab = true
theorem Upto.start (ts : List Tg) : Upto ts 0 := fun j t h => absurd h (by omega)
theorem Upto.step {ts : List Tg} {k : Nat} {t : Tg} (h : Upto ts k) (ht : ts[k]? = some t) (h1 : TOk ts t) (h2 : ∀ p, 0 < k → ts[k - 1]? = some p → less p.lab t.lab = true) : Upto ts (k + 1) := fun j x hj hx => by
  by_cases e : j = k
  · subst e; rw [ht] at hx; cases hx; exact ⟨h1, h2⟩
  · exact h j x (by omega) hx
theorem asc_of_next : ∀ (l : List ByteArray), (∀ j a b, l[j]? = some a → l[j + 1]? = some b → less a b = true) → Asc l
  | [], _ => List.Pairwise.nil
  | [a], _ => List.pairwise_singleton _ _
  | a :: b :: l, h => by
    have ih := asc_of_next (b :: l) (fun j x y hx hy => h (j + 1) x y (by simpa using hx) (by simpa using hy))
    have hab := h 0 a b rfl rfl
    refine List.pairwise_cons.2 ⟨fun x hx => ?_, ih⟩
    rcases List.mem_cons.1 hx with rfl | hx
    · exact hab
    · exact lessB_trans hab ((List.pairwise_cons.1 ih).1 x hx)
theorem Upto.vld {ts : List Tg} (h : Upto ts ts.length) (hf : ts.length ≤ 100) (hc : ∀ s, ¬ Rch (nxT ts) s s) : Vld ts := by
  refine ⟨hf, fun t ht => ?_, asc_of_next _ (fun j a b ha hb => ?_), hc⟩
  · obtain ⟨j, hj, e⟩ := List.getElem_of_mem ht
    exact (h j t hj (by rw [← e]; exact List.getElem?_eq_getElem _)).1
  · rw [List.getElem?_map] at ha hb
    obtain ⟨p, hp, rfl⟩ := Option.map_eq_some_iff.1 ha
    obtain ⟨t, ht, rfl⟩ := Option.map_eq_some_iff.1 hb
    exact (h (j + 1) t (List.getElem?_eq_some_iff.1 ht).1 ht).2 p (by omega) (by simpa using hp)
theorem Vld.next {ts : List Tg} (h : Vld ts) {k : Nat} {p t : Tg} (hk : 0 < k) (hp : ts[k - 1]? = some p) (ht : ts[k]? = some t) : less p.lab t.lab = true := by
  have h1 := List.getElem?_eq_some_iff.1 hp
  have h2 := List.getElem?_eq_some_iff.1 ht
  have := List.pairwise_iff_getElem.1 h.asc (k - 1) k (by simpa using h1.1) (by simpa using h2.1) (by omega)
  simpa [h1.2, h2.2] using this
theorem Vld.at_ {ts : List Tg} (h : Vld ts) {k : Nat} {t : Tg} (ht : ts[k]? = some t) : TOk ts t := h.all t (List.mem_of_getElem? ht)
theorem idx_kind (ts : List Tg) (d : ByteArray) : ∃ x0 x2 x3, (idxG ts d).getD (.agg #[.string ⟨#[]⟩, .int .i64 0, .slice none 0 0, .slice none 0 0]) = .agg #[x0, .int .i64 (kindOf ts d), x2, x3] := by
  unfold idxG kindOf
  cases findT ts d with
  | none => exact ⟨_, _, _, rfl⟩
  | some t => exact ⟨_, _, _, rfl⟩
theorem field1 (x0 x2 x3 : Value) (k : Int) (w : World) : (Instr.field 60 (.agg #[x0, .int .i64 k, x2, x3]) 1).run Tryz.prog w = .ok (.int .i64 k) w := by
  simp [Instr.field, run_underlying Tryz.underlying60, go_sem, asAgg, Result.andThen]
def VldEnd (ts : List Tg) (w : World) (e : Ending) (w' : World) : Prop := ∃ r : Bool, e = .returned (.bool r) ∧ (r = true ↔ Vld ts) ∧ Below w.heap.size w w'
theorem VldEnd.no {ts : List Tg} {w w' : World} (h : ¬ Vld ts) (hb : Below w.heap.size w w') : VldEnd ts w (.returned (.bool false)) w' := ⟨false, rfl, ⟨(fun e => by cases e), fun e => absurd e h⟩, hb⟩

theorem le_not_less {a b : ByteArray} {le : Bool} (h : (Op.bytesLess a.toList b.toList || a.toList == b.toList) = le) : less b a = !le := by
  rw [less_str, str_dec] at h
  subst h
  by_cases e : a = b
  · subst e; simp [lessB_irrefl]
  · simp only [e, decide_false, Bool.or_false]
    cases h1 : less a b with
    | true => rw [lessB_asymm h1]; rfl
    | false =>
      cases h2 : less b a with
      | true => rfl
      | false => exact absurd (lessB_conn h1 h2) e

set_option maxRecDepth 100000 in
set_option maxHeartbeats 8000000 in
theorem valid_any (A : Option Addr) (n c B : Nat) (ts : List Tg) (w : World) (h0 : Sl w B 4 A n (flat tgC ts)) (hok : ∀ t ∈ ts, TgOk w B t) (hB : B ≤ w.heap.size) (hnc : n ≤ c) (hcm : c ≤ maxLen) :
    Calls Tryz.prog 91 #[.agg #[.slice A n c]] w (VldEnd ts w) := by
  have HTL := Lib.hid (h0.len tgC_len (by omega))
  have H0 := Lib.hid h0; have HOK := Lib.hid hok
  clear h0 hok
  have hnm : n ≤ 9223372036854775807 := by unfold maxLen at hcm; omega
  have HB0 : Hid (Below w.heap.size w (w.alloc (.cells #[.slice A n c] 24))) := (Below.refl _ w).alloc (Nat.le_refl _) _
  go_enter Tryz.func91, Tryz.ntmps91
  by_cases hbig : 100 < n
  · have hF : Hid (¬ Vld ts) := fun h => by have := h.few; rw [HTL.out] at this; omega
    have hlz : (100 : Int) < (n : Int) := by omega
    go_wp2
    go_ret
    exact VldEnd.no hF.out HB0.out
  · have hlz : ¬ (100 : Int) < (n : Int) := by omega
    have HI := Lib.hid (index_any A n c B ts (w.alloc (.cells #[.slice A n c] 24)) (H0.out.below HB0.out hB) (by simp; omega) (by omega) (fun t ht => (HOK.out t ht).ls))
    go_wp2_with (go_at_call 92; refine HI.out.mono ?_; rintro e w1 ⟨rfl, hM, hb1⟩; refine halt_ ?_)
    refine unhalt ?_
    simp only [World.size_alloc] at hM hb1 ⊢
    have HM := Lib.hid hM
    have HB1 : Hid (Below w.heap.size w w1) := HB0.out.trans (hb1.mono (by omega))
    have HG1 : Hid (w1.heap[w.heap.size]? = some (.cells #[.slice A n c] 24 (0, 0))) := (hb1.block _ (by omega)).trans (World.alloc_heap_new w _)
    have x0 := cell_of_one HG1.out
    have hz1 : w.heap.size + 1 < w1.heap.size := HM.out.lt
    clear hM hb1 HI
    go_wp2
    go_loopw [18] (fun i wr => ∃ k : Nat, k ≤ n ∧ i = .int .i64 k ∧ Hid (Upto ts k) ∧ Hid (Below w1.heap.size w1 wr)) (fun i _ => n - (intOf i).toNat)
    case atStart => exact ⟨0, Nat.zero_le _, rfl, Upto.start ts, Below.refl _ _⟩
    case round =>
      obtain ⟨k, hk, rfl, hU, hBel⟩ := hrel
      have HBw : Hid (Below w.heap.size w wr) := HB1.out.trans (hBel.out.mono (by omega))
      have hwz := hBel.out.size
      have HGr : Hid (wr.heap[w.heap.size]? = some (.cells #[.slice A n c] 24 (0, 0))) := (hBel.out.block _ (by omega)).trans HG1.out
      have g0 := cell_of_one HGr.out
      by_cases hlt : k < n
      · obtain ⟨b, off, t, rfl, hbB, ht, y0, y1, y2, y3⟩ := (H0.out.below HBw.out hB).tg hlt
        have HT := Lib.hid ht
        have HTO : Hid (TgOk w B t) := HOK.out t (List.mem_of_getElem? ht)
        have hlz : (k : Int) < (n : Int) := by omega
        obtain ⟨lab, kind, dA, dn, dc, deps, vA, vn, vc, vis⟩ := t
        simp only at y0 y1 y2 y3
        clear ht
        have hk0 : Bk (wr.alloc (.cells #[.string lab, .int .i64 kind, .slice dA dn dc, .slice vA vn vc] 60)) wr.heap.size 60 #[.string lab, .int .i64 kind, .slice dA dn dc, .slice vA vn vc] := Bk.new wr _ _
        have HK0 := Lib.hid hk0
        clear hk0
        have hls : lab.size ≤ maxLen := HTO.out.ls
        have HBa : Hid (Below w1.heap.size w1 (wr.alloc (.cells #[.string lab, .int .i64 kind, .slice dA dn dc, .slice vA vn vc] 60))) := hBel.out.alloc hwz _
        have g0' : (wr.alloc (.cells #[.string lab, .int .i64 kind, .slice dA dn dc, .slice vA vn vc] 60)).cell? ⟨w.heap.size, 0, none⟩ = some (.slice (some ⟨b, off, none⟩) n c) := (HBa.out.cell (p := ⟨w.heap.size, 0, none⟩) (by show w.heap.size < _; omega)).trans x0
        have l0 := HK0.out.cell 0
        simp only [List.getElem?_toArray, List.getElem?_cons_zero] at l0
        have HLF := Lib.hid l0
        have HGF := Lib.hid g0'
        clear l0 g0'
        cases hlab : labB lab with
        | false =>
          have hF : Hid (¬ Vld ts) := fun h => by have := (h.at_ HT.out).lab; rw [hlab] at this; cases this
          have HLAB := Lib.hid hlab
          clear hlab
          go_wp2_with fail
          refine wp_region_stableGD 19 [23, 24, 25, 26, 27, 28, 29, 30, 31, 32, 33, 34, 35, 36, 37, 38, 39, 40, 41] (by kernel_rfl) (by kernel_rfl) (by kernel_rfl) (fun W => Below (wr.alloc (.cells #[.string lab, .int .i64 kind, .slice dA dn dc, .slice vA vn vc] 60)).heap.size (wr.alloc (.cells #[.string lab, .int .i64 kind, .slice dA dn dc, .slice vA vn vc] 60)) W) (fun W W' => Below W.heap.size W W')
            (vPhi [.pointer (some ⟨wr.heap.size, 0, none⟩), .string lab, .bool false, .bool true, .bool true, undef, undef, undef, undef, undef, undef, undef, undef, undef, undef, undef, undef, undef, undef]) (fun W W' h1 h2 => h1.trans (h2.mono h1.size)) (fun _ _ _ _ h _ => h) (Below.refl _ _).drew ?stepfalse ?tailfalse
          case stepfalse =>
            intro i o vs W hi ho hv hR hphi
            obtain ⟨v0, v1, v2, v3, v4, v5, v6, v7, v8, v9, v10, v11, v12, v13, v14, v15, v16, v17, v18, rfl⟩ := list19 hv
            simp only [List.zip, List.zipWith, putAll, Act.put, List.setIfInBounds_toArray, List.set]
            have l0 := (hR.cell (p := ⟨wr.heap.size, 0, none⟩) (by simp)).trans HLF.out
            have l1 := (hR.cell (p := ⟨w.heap.size, 0, none⟩) (by show w.heap.size < _; simp; omega)).trans HGF.out
            match i, hi, ho with
            | 0, _, rfl =>
              exact .inl ⟨rfl, gives_value (v := .pointer (some ⟨wr.heap.size, 0, none⟩)) (w' := W) (by go_simp) ⟨Below.refl _ _, fun u hu => by cases hu; rfl⟩⟩
            | 1, _, rfl =>
              have e0 : v0 = _ := hphi ⟨0, .data⟩ (by simp) rfl v0 rfl _ rfl
              subst e0
              exact .inl ⟨rfl, gives_value (v := .string lab) (w' := W) (by go_simp) ⟨Below.refl _ _, fun u hu => by cases hu; rfl⟩⟩
            | 2, _, rfl =>
              have e1 : v1 = _ := hphi ⟨1, .data⟩ (by simp) rfl v1 rfl _ rfl
              subst e1
              refine .inl ⟨rfl, gives_call (f := 36) (args := #[.string lab]) (by go_simp) ((label_any lab W hls).mono ?_)⟩
              rintro e W' ⟨rfl, hb⟩
              exact ⟨_, rfl, hb, fun u hu => by cases hu; rw [HLAB.out]⟩
            | 3, _, rfl =>
              have e2 : v2 = _ := hphi ⟨2, .data⟩ (by simp) rfl v2 rfl _ rfl
              subst e2
              exact .inl ⟨rfl, gives_value (v := .bool true) (w' := W) (by go_simp) ⟨Below.refl _ _, fun u hu => by cases hu; rfl⟩⟩
            | 4, _, rfl =>
              have e3 : v3 = _ := hphi ⟨3, .data⟩ (by simp) rfl v3 rfl _ rfl
              subst e3
              exact .inl ⟨rfl, gives_value (v := .bool true) (w' := W) (by go_simp) ⟨Below.refl _ _, fun u hu => by cases hu; rfl⟩⟩
            | 5, _, rfl =>
              have e4 : v4 = _ := hphi ⟨4, .guard⟩ (by simp) rfl v4 rfl _ rfl
              subst e4
              exact .inr ⟨rfl, Below.refl _ _, fun u hu => by cases hu; rfl⟩
            | 6, _, rfl =>
              have e5 : v5 = _ := hphi ⟨5, .data⟩ (by simp) rfl v5 rfl _ rfl
              have e4 : v4 = _ := hphi ⟨4, .guard⟩ (by simp) rfl v4 rfl _ rfl
              subst e4 e5
              exact .inr ⟨rfl, Below.refl _ _, fun u hu => by cases hu; rfl⟩
            | 7, _, rfl =>
              have e6 : v6 = _ := hphi ⟨6, .data⟩ (by simp) rfl v6 rfl _ rfl
              have e4 : v4 = _ := hphi ⟨4, .guard⟩ (by simp) rfl v4 rfl _ rfl
              subst e4 e6
              exact .inr ⟨rfl, Below.refl _ _, fun u hu => by cases hu; rfl⟩
            | 8, _, rfl =>
              have e7 : v7 = _ := hphi ⟨7, .guard⟩ (by simp) rfl v7 rfl _ rfl
              subst e7
              exact .inr ⟨rfl, Below.refl _ _, fun u hu => by cases hu; rfl⟩
            | 9, _, rfl =>
              have e8 : v8 = _ := hphi ⟨8, .data⟩ (by simp) rfl v8 rfl _ rfl
              have e7 : v7 = _ := hphi ⟨7, .guard⟩ (by simp) rfl v7 rfl _ rfl
              subst e7 e8
              exact .inr ⟨rfl, Below.refl _ _, fun u hu => by cases hu; rfl⟩
            | 10, _, rfl =>
              have e7 : v7 = _ := hphi ⟨7, .guard⟩ (by simp) rfl v7 rfl _ rfl
              subst e7
              exact .inr ⟨rfl, Below.refl _ _, fun u hu => by cases hu; rfl⟩
            | 11, _, rfl =>
              have e10 : v10 = _ := hphi ⟨10, .data⟩ (by simp) rfl v10 rfl _ rfl
              have e7 : v7 = _ := hphi ⟨7, .guard⟩ (by simp) rfl v7 rfl _ rfl
              subst e7 e10
              exact .inr ⟨rfl, Below.refl _ _, fun u hu => by cases hu; rfl⟩
            | 12, _, rfl =>
              have e7 : v7 = _ := hphi ⟨7, .guard⟩ (by simp) rfl v7 rfl _ rfl
              subst e7
              exact .inr ⟨rfl, Below.refl _ _, fun u hu => by cases hu; rfl⟩
            | 13, _, rfl =>
              have e12 : v12 = _ := hphi ⟨12, .data⟩ (by simp) rfl v12 rfl _ rfl
              have e7 : v7 = _ := hphi ⟨7, .guard⟩ (by simp) rfl v7 rfl _ rfl
              subst e7 e12
              exact .inr ⟨rfl, Below.refl _ _, fun u hu => by cases hu; rfl⟩
            | 14, _, rfl =>
              have e11 : v11 = _ := hphi ⟨11, .data⟩ (by simp) rfl v11 rfl _ rfl
              have e13 : v13 = _ := hphi ⟨13, .data⟩ (by simp) rfl v13 rfl _ rfl
              have e7 : v7 = _ := hphi ⟨7, .guard⟩ (by simp) rfl v7 rfl _ rfl
              subst e7 e11 e13
              exact .inr ⟨rfl, Below.refl _ _, fun u hu => by cases hu; rfl⟩
            | 15, _, rfl =>
              have e14 : v14 = _ := hphi ⟨14, .data⟩ (by simp) rfl v14 rfl _ rfl
              have e7 : v7 = _ := hphi ⟨7, .guard⟩ (by simp) rfl v7 rfl _ rfl
              subst e7 e14
              exact .inr ⟨rfl, Below.refl _ _, fun u hu => by cases hu; rfl⟩
            | 16, _, rfl =>
              have e15 : v15 = _ := hphi ⟨15, .data⟩ (by simp) rfl v15 rfl _ rfl
              have e7 : v7 = _ := hphi ⟨7, .guard⟩ (by simp) rfl v7 rfl _ rfl
              subst e7 e15
              exact .inr ⟨rfl, Below.refl _ _, fun u hu => by cases hu; rfl⟩
            | 17, _, rfl =>
              have e9 : v9 = _ := hphi ⟨9, .data⟩ (by simp) rfl v9 rfl _ rfl
              have e16 : v16 = _ := hphi ⟨16, .data⟩ (by simp) rfl v16 rfl _ rfl
              have e7 : v7 = _ := hphi ⟨7, .guard⟩ (by simp) rfl v7 rfl _ rfl
              subst e7 e9 e16
              exact .inr ⟨rfl, Below.refl _ _, fun u hu => by cases hu; rfl⟩
            | 18, _, rfl =>
              have e7 : v7 = _ := hphi ⟨7, .data⟩ (by simp) rfl v7 rfl _ rfl
              have e17 : v17 = _ := hphi ⟨17, .data⟩ (by simp) rfl v17 rfl _ rfl
              have e4 : v4 = _ := hphi ⟨4, .guard⟩ (by simp) rfl v4 rfl _ rfl
              subst e4 e7 e17
              exact .inr ⟨rfl, Below.refl _ _, fun u hu => by cases hu; rfl⟩
            | i + 19, hi, _ => exact absurd hi (by omega)
          case' tailfalse =>
            intro vs W hv hR hphi
            obtain ⟨v0, v1, v2, v3, v4, v5, v6, v7, v8, v9, v10, v11, v12, v13, v14, v15, v16, v17, v18, rfl⟩ := list19 hv
            simp only [List.zip, List.zipWith, putAll, Act.put, List.setIfInBounds_toArray, List.set, List.drop]
            have e4 : v4 = _ := hphi 4 v4 rfl _ rfl
            have e18 : v18 = _ := hphi 18 v18 rfl _ rfl
            subst e4 e18
            have HBR : Hid (Below w1.heap.size w1 W) := HBa.out.trans (hR.mono HBa.out.size)
            go_wp2
            go_ret
            exact VldEnd.no hF.out (HB1.out.trans (HBR.out.mono (by omega)))
        | true =>
          have HLAB := Lib.hid hlab
          clear hlab
          have hways : (k = 0) ∨ ∃ m, k = m + 1 := by cases k with | zero => exact .inl rfl | succ m => exact .inr ⟨m, rfl⟩
          rcases hways with hk0 | ⟨m, hkm⟩
          case' inl =>
            have HNX : Hid (∀ p, 0 < k → ts[k - 1]? = some p → less p.lab lab = true) := fun p h => absurd h (by omega)
            have hgt : ¬ (0 : Int) < (k : Int) := by omega
            have HKK := Lib.hid hk0
            clear hk0
            go_wp2_with fail
            refine wp_region_stableGD 19 [23, 24, 25, 26, 27, 28, 29, 30, 31, 32, 33, 34, 35, 36, 37, 38, 39, 40, 41] (by kernel_rfl) (by kernel_rfl) (by kernel_rfl) (fun W => Below (wr.alloc (.cells #[.string lab, .int .i64 kind, .slice dA dn dc, .slice vA vn vc] 60)).heap.size (wr.alloc (.cells #[.string lab, .int .i64 kind, .slice dA dn dc, .slice vA vn vc] 60)) W) (fun W W' => Below W.heap.size W W')
              (vPhi [.pointer (some ⟨wr.heap.size, 0, none⟩), .string lab, .bool true, .bool false, .bool false, .int .i64 (k : Int), .bool false, .bool false, undef, undef, undef, undef, undef, undef, undef, undef, undef, undef, .bool false]) (fun W W' h1 h2 => h1.trans (h2.mono h1.size)) (fun _ _ _ _ h _ => h) (Below.refl _ _).drew ?steptrue0 ?tailtrue0
            case steptrue0 =>
              intro i o vs W hi ho hv hR hphi
              obtain ⟨v0, v1, v2, v3, v4, v5, v6, v7, v8, v9, v10, v11, v12, v13, v14, v15, v16, v17, v18, rfl⟩ := list19 hv
              simp only [List.zip, List.zipWith, putAll, Act.put, List.setIfInBounds_toArray, List.set]
              have l0 := (hR.cell (p := ⟨wr.heap.size, 0, none⟩) (by simp)).trans HLF.out
              have l1 := (hR.cell (p := ⟨w.heap.size, 0, none⟩) (by show w.heap.size < _; simp; omega)).trans HGF.out
              match i, hi, ho with
              | 0, _, rfl =>
                exact .inl ⟨rfl, gives_value (v := .pointer (some ⟨wr.heap.size, 0, none⟩)) (w' := W) (by go_simp) ⟨Below.refl _ _, fun u hu => by cases hu; rfl⟩⟩
              | 1, _, rfl =>
                have e0 : v0 = _ := hphi ⟨0, .data⟩ (by simp) rfl v0 rfl _ rfl
                subst e0
                exact .inl ⟨rfl, gives_value (v := .string lab) (w' := W) (by go_simp) ⟨Below.refl _ _, fun u hu => by cases hu; rfl⟩⟩
              | 2, _, rfl =>
                have e1 : v1 = _ := hphi ⟨1, .data⟩ (by simp) rfl v1 rfl _ rfl
                subst e1
                refine .inl ⟨rfl, gives_call (f := 36) (args := #[.string lab]) (by go_simp) ((label_any lab W hls).mono ?_)⟩
                rintro e W' ⟨rfl, hb⟩
                exact ⟨_, rfl, hb, fun u hu => by cases hu; rw [HLAB.out]⟩
              | 3, _, rfl =>
                have e2 : v2 = _ := hphi ⟨2, .data⟩ (by simp) rfl v2 rfl _ rfl
                subst e2
                exact .inl ⟨rfl, gives_value (v := .bool false) (w' := W) (by go_simp) ⟨Below.refl _ _, fun u hu => by cases hu; rfl⟩⟩
              | 4, _, rfl =>
                have e3 : v3 = _ := hphi ⟨3, .data⟩ (by simp) rfl v3 rfl _ rfl
                subst e3
                exact .inl ⟨rfl, gives_value (v := .bool false) (w' := W) (by go_simp) ⟨Below.refl _ _, fun u hu => by cases hu; rfl⟩⟩
              | 5, _, rfl =>
                have e4 : v4 = _ := hphi ⟨4, .guard⟩ (by simp) rfl v4 rfl _ rfl
                subst e4
                exact .inl ⟨rfl, gives_value (v := .int .i64 (k : Int)) (w' := W) (by go_simp) ⟨Below.refl _ _, fun u hu => by cases hu; rfl⟩⟩
              | 6, _, rfl =>
                have e5 : v5 = _ := hphi ⟨5, .data⟩ (by simp) rfl v5 rfl _ rfl
                have e4 : v4 = _ := hphi ⟨4, .guard⟩ (by simp) rfl v4 rfl _ rfl
                subst e4 e5
                exact .inl ⟨rfl, gives_value (v := .bool false) (w' := W) (by have h9 := HKK.out; go_simp) ⟨Below.refl _ _, fun u hu => by cases hu; rfl⟩⟩
              | 7, _, rfl =>
                have e6 : v6 = _ := hphi ⟨6, .data⟩ (by simp) rfl v6 rfl _ rfl
                have e4 : v4 = _ := hphi ⟨4, .guard⟩ (by simp) rfl v4 rfl _ rfl
                subst e4 e6
                exact .inl ⟨rfl, gives_value (v := .bool false) (w' := W) (by go_simp) ⟨Below.refl _ _, fun u hu => by cases hu; rfl⟩⟩
              | 8, _, rfl =>
                have e7 : v7 = _ := hphi ⟨7, .guard⟩ (by simp) rfl v7 rfl _ rfl
                subst e7
                exact .inr ⟨rfl, Below.refl _ _, fun u hu => by cases hu; rfl⟩
              | 9, _, rfl =>
                have e8 : v8 = _ := hphi ⟨8, .data⟩ (by simp) rfl v8 rfl _ rfl
                have e7 : v7 = _ := hphi ⟨7, .guard⟩ (by simp) rfl v7 rfl _ rfl
                subst e7 e8
                exact .inr ⟨rfl, Below.refl _ _, fun u hu => by cases hu; rfl⟩
              | 10, _, rfl =>
                have e7 : v7 = _ := hphi ⟨7, .guard⟩ (by simp) rfl v7 rfl _ rfl
                subst e7
                exact .inr ⟨rfl, Below.refl _ _, fun u hu => by cases hu; rfl⟩
              | 11, _, rfl =>
                have e10 : v10 = _ := hphi ⟨10, .data⟩ (by simp) rfl v10 rfl _ rfl
                have e7 : v7 = _ := hphi ⟨7, .guard⟩ (by simp) rfl v7 rfl _ rfl
                subst e7 e10
                exact .inr ⟨rfl, Below.refl _ _, fun u hu => by cases hu; rfl⟩
              | 12, _, rfl =>
                have e7 : v7 = _ := hphi ⟨7, .guard⟩ (by simp) rfl v7 rfl _ rfl
                subst e7
                exact .inr ⟨rfl, Below.refl _ _, fun u hu => by cases hu; rfl⟩
              | 13, _, rfl =>
                have e12 : v12 = _ := hphi ⟨12, .data⟩ (by simp) rfl v12 rfl _ rfl
                have e7 : v7 = _ := hphi ⟨7, .guard⟩ (by simp) rfl v7 rfl _ rfl
                subst e7 e12
                exact .inr ⟨rfl, Below.refl _ _, fun u hu => by cases hu; rfl⟩
              | 14, _, rfl =>
                have e11 : v11 = _ := hphi ⟨11, .data⟩ (by simp) rfl v11 rfl _ rfl
                have e13 : v13 = _ := hphi ⟨13, .data⟩ (by simp) rfl v13 rfl _ rfl
                have e7 : v7 = _ := hphi ⟨7, .guard⟩ (by simp) rfl v7 rfl _ rfl
                subst e7 e11 e13
                exact .inr ⟨rfl, Below.refl _ _, fun u hu => by cases hu; rfl⟩
              | 15, _, rfl =>
                have e14 : v14 = _ := hphi ⟨14, .data⟩ (by simp) rfl v14 rfl _ rfl
                have e7 : v7 = _ := hphi ⟨7, .guard⟩ (by simp) rfl v7 rfl _ rfl
                subst e7 e14
                exact .inr ⟨rfl, Below.refl _ _, fun u hu => by cases hu; rfl⟩
              | 16, _, rfl =>
                have e15 : v15 = _ := hphi ⟨15, .data⟩ (by simp) rfl v15 rfl _ rfl
                have e7 : v7 = _ := hphi ⟨7, .guard⟩ (by simp) rfl v7 rfl _ rfl
                subst e7 e15
                exact .inr ⟨rfl, Below.refl _ _, fun u hu => by cases hu; rfl⟩
              | 17, _, rfl =>
                have e9 : v9 = _ := hphi ⟨9, .data⟩ (by simp) rfl v9 rfl _ rfl
                have e16 : v16 = _ := hphi ⟨16, .data⟩ (by simp) rfl v16 rfl _ rfl
                have e7 : v7 = _ := hphi ⟨7, .guard⟩ (by simp) rfl v7 rfl _ rfl
                subst e7 e9 e16
                exact .inr ⟨rfl, Below.refl _ _, fun u hu => by cases hu; rfl⟩
              | 18, _, rfl =>
                have e7 : v7 = _ := hphi ⟨7, .data⟩ (by simp) rfl v7 rfl _ rfl
                have e17 : v17 = _ := hphi ⟨17, .data⟩ (by simp) rfl v17 rfl _ rfl
                have e4 : v4 = _ := hphi ⟨4, .guard⟩ (by simp) rfl v4 rfl _ rfl
                subst e4 e7 e17
                exact .inl ⟨rfl, gives_value (v := .bool false) (w' := W) (by go_simp) ⟨Below.refl _ _, fun u hu => by cases hu; rfl⟩⟩
              | i + 19, hi, _ => exact absurd hi (by omega)
            case' tailtrue0 =>
              intro vs W hv hR hphi
              obtain ⟨v0, v1, v2, v3, v4, v5, v6, v7, v8, v9, v10, v11, v12, v13, v14, v15, v16, v17, v18, rfl⟩ := list19 hv
              simp only [List.zip, List.zipWith, putAll, Act.put, List.setIfInBounds_toArray, List.set, List.drop]
              have e4 : v4 = _ := hphi 4 v4 rfl _ rfl
              have e18 : v18 = _ := hphi 18 v18 rfl _ rfl
              subst e4 e18
              have HBR : Hid (Below w1.heap.size w1 W) := HBa.out.trans (hR.mono HBa.out.size)
          case' inr =>
            obtain ⟨b', off', pt, e', _, hpt, q0, _⟩ := (H0.out.below (HB1.out.trans (HBa.out.mono (by omega))) hB).tg (show m < n by omega)
            cases e'
            have HPF := Lib.hid q0
            obtain ⟨plab, hpl⟩ : ∃ plab, pt.lab = plab := ⟨_, rfl⟩
            rw [hpl] at HPF
            obtain ⟨le, hle⟩ : ∃ le, (Op.bytesLess lab.toList plab.toList || lab.toList == plab.toList) = le := ⟨_, rfl⟩
            have hgt : (0 : Int) < (k : Int) := by omega
            have HKK : Hid (0 < k) := by show 0 < k; omega
            have hwrap : IntKind.i64.wrap ((k : Int) - 1) = (m : Int) := by rw [IntWalk.i64_in _ (by omega)]; omega
            have hmn : (m : Int) < (n : Int) := by omega
            have HLE := Lib.hid (le_not_less hle)
            have HPT : Hid (ts[k - 1]? = some pt) := by show _ = _; rw [hkm]; exact hpt
            have HPL := Lib.hid hpl
            clear hpt q0 hpl hkm
            go_wp2_with fail
            refine wp_region_stableGD 19 [23, 24, 25, 26, 27, 28, 29, 30, 31, 32, 33, 34, 35, 36, 37, 38, 39, 40, 41] (by kernel_rfl) (by kernel_rfl) (by kernel_rfl) (fun W => Below (wr.alloc (.cells #[.string lab, .int .i64 kind, .slice dA dn dc, .slice vA vn vc] 60)).heap.size (wr.alloc (.cells #[.string lab, .int .i64 kind, .slice dA dn dc, .slice vA vn vc] 60)) W) (fun W W' => Below W.heap.size W W')
              (vPhi [.pointer (some ⟨wr.heap.size, 0, none⟩), .string lab, .bool true, .bool false, .bool false, .int .i64 (k : Int), .bool true, .bool true, .pointer (some ⟨wr.heap.size, 0, none⟩), .string lab, .pointer (some ⟨w.heap.size, 0, none⟩), .slice (some ⟨b, off, none⟩) n c, .int .i64 (k : Int), .int .i64 (m : Int), .pointer (some ⟨b, off + m * 4, none⟩), .pointer (some ⟨b, off + m * 4, none⟩), .string plab, .bool le, .bool le]) (fun W W' h1 h2 => h1.trans (h2.mono h1.size)) (fun _ _ _ _ h _ => h) (Below.refl _ _).drew ?steptrue1 ?tailtrue1
            case steptrue1 =>
              intro i o vs W hi ho hv hR hphi
              obtain ⟨v0, v1, v2, v3, v4, v5, v6, v7, v8, v9, v10, v11, v12, v13, v14, v15, v16, v17, v18, rfl⟩ := list19 hv
              simp only [List.zip, List.zipWith, putAll, Act.put, List.setIfInBounds_toArray, List.set]
              have l0 := (hR.cell (p := ⟨wr.heap.size, 0, none⟩) (by simp)).trans HLF.out
              have l1 := (hR.cell (p := ⟨w.heap.size, 0, none⟩) (by show w.heap.size < _; simp; omega)).trans HGF.out
              have l2 := (hR.cell (p := ⟨b, off + m * 4, none⟩) (by show b < _; simp; omega)).trans HPF.out
              match i, hi, ho with
              | 0, _, rfl =>
                exact .inl ⟨rfl, gives_value (v := .pointer (some ⟨wr.heap.size, 0, none⟩)) (w' := W) (by go_simp) ⟨Below.refl _ _, fun u hu => by cases hu; rfl⟩⟩
              | 1, _, rfl =>
                have e0 : v0 = _ := hphi ⟨0, .data⟩ (by simp) rfl v0 rfl _ rfl
                subst e0
                exact .inl ⟨rfl, gives_value (v := .string lab) (w' := W) (by go_simp) ⟨Below.refl _ _, fun u hu => by cases hu; rfl⟩⟩
              | 2, _, rfl =>
                have e1 : v1 = _ := hphi ⟨1, .data⟩ (by simp) rfl v1 rfl _ rfl
                subst e1
                refine .inl ⟨rfl, gives_call (f := 36) (args := #[.string lab]) (by go_simp) ((label_any lab W hls).mono ?_)⟩
                rintro e W' ⟨rfl, hb⟩
                exact ⟨_, rfl, hb, fun u hu => by cases hu; rw [HLAB.out]⟩
              | 3, _, rfl =>
                have e2 : v2 = _ := hphi ⟨2, .data⟩ (by simp) rfl v2 rfl _ rfl
                subst e2
                exact .inl ⟨rfl, gives_value (v := .bool false) (w' := W) (by go_simp) ⟨Below.refl _ _, fun u hu => by cases hu; rfl⟩⟩
              | 4, _, rfl =>
                have e3 : v3 = _ := hphi ⟨3, .data⟩ (by simp) rfl v3 rfl _ rfl
                subst e3
                exact .inl ⟨rfl, gives_value (v := .bool false) (w' := W) (by go_simp) ⟨Below.refl _ _, fun u hu => by cases hu; rfl⟩⟩
              | 5, _, rfl =>
                have e4 : v4 = _ := hphi ⟨4, .guard⟩ (by simp) rfl v4 rfl _ rfl
                subst e4
                exact .inl ⟨rfl, gives_value (v := .int .i64 (k : Int)) (w' := W) (by go_simp) ⟨Below.refl _ _, fun u hu => by cases hu; rfl⟩⟩
              | 6, _, rfl =>
                have e5 : v5 = _ := hphi ⟨5, .data⟩ (by simp) rfl v5 rfl _ rfl
                have e4 : v4 = _ := hphi ⟨4, .guard⟩ (by simp) rfl v4 rfl _ rfl
                subst e4 e5
                exact .inl ⟨rfl, gives_value (v := .bool true) (w' := W) (by have h9 := HKK.out; go_simp) ⟨Below.refl _ _, fun u hu => by cases hu; rfl⟩⟩
              | 7, _, rfl =>
                have e6 : v6 = _ := hphi ⟨6, .data⟩ (by simp) rfl v6 rfl _ rfl
                have e4 : v4 = _ := hphi ⟨4, .guard⟩ (by simp) rfl v4 rfl _ rfl
                subst e4 e6
                exact .inl ⟨rfl, gives_value (v := .bool true) (w' := W) (by go_simp) ⟨Below.refl _ _, fun u hu => by cases hu; rfl⟩⟩
              | 8, _, rfl =>
                have e7 : v7 = _ := hphi ⟨7, .guard⟩ (by simp) rfl v7 rfl _ rfl
                subst e7
                exact .inl ⟨rfl, gives_value (v := .pointer (some ⟨wr.heap.size, 0, none⟩)) (w' := W) (by go_simp) ⟨Below.refl _ _, fun u hu => by cases hu; rfl⟩⟩
              | 9, _, rfl =>
                have e8 : v8 = _ := hphi ⟨8, .data⟩ (by simp) rfl v8 rfl _ rfl
                have e7 : v7 = _ := hphi ⟨7, .guard⟩ (by simp) rfl v7 rfl _ rfl
                subst e7 e8
                exact .inl ⟨rfl, gives_value (v := .string lab) (w' := W) (by go_simp) ⟨Below.refl _ _, fun u hu => by cases hu; rfl⟩⟩
              | 10, _, rfl =>
                have e7 : v7 = _ := hphi ⟨7, .guard⟩ (by simp) rfl v7 rfl _ rfl
                subst e7
                exact .inl ⟨rfl, gives_value (v := .pointer (some ⟨w.heap.size, 0, none⟩)) (w' := W) (by go_simp) ⟨Below.refl _ _, fun u hu => by cases hu; rfl⟩⟩
              | 11, _, rfl =>
                have e10 : v10 = _ := hphi ⟨10, .data⟩ (by simp) rfl v10 rfl _ rfl
                have e7 : v7 = _ := hphi ⟨7, .guard⟩ (by simp) rfl v7 rfl _ rfl
                subst e7 e10
                exact .inl ⟨rfl, gives_value (v := .slice (some ⟨b, off, none⟩) n c) (w' := W) (by go_simp) ⟨Below.refl _ _, fun u hu => by cases hu; rfl⟩⟩
              | 12, _, rfl =>
                have e7 : v7 = _ := hphi ⟨7, .guard⟩ (by simp) rfl v7 rfl _ rfl
                subst e7
                exact .inl ⟨rfl, gives_value (v := .int .i64 (k : Int)) (w' := W) (by go_simp) ⟨Below.refl _ _, fun u hu => by cases hu; rfl⟩⟩
              | 13, _, rfl =>
                have e12 : v12 = _ := hphi ⟨12, .data⟩ (by simp) rfl v12 rfl _ rfl
                have e7 : v7 = _ := hphi ⟨7, .guard⟩ (by simp) rfl v7 rfl _ rfl
                subst e7 e12
                exact .inl ⟨rfl, gives_value (v := .int .i64 (m : Int)) (w' := W) (by go_simp) ⟨Below.refl _ _, fun u hu => by cases hu; rfl⟩⟩
              | 14, _, rfl =>
                have e11 : v11 = _ := hphi ⟨11, .data⟩ (by simp) rfl v11 rfl _ rfl
                have e13 : v13 = _ := hphi ⟨13, .data⟩ (by simp) rfl v13 rfl _ rfl
                have e7 : v7 = _ := hphi ⟨7, .guard⟩ (by simp) rfl v7 rfl _ rfl
                subst e7 e11 e13
                exact .inl ⟨rfl, gives_value (v := .pointer (some ⟨b, off + m * 4, none⟩)) (w' := W) (by go_simp) ⟨Below.refl _ _, fun u hu => by cases hu; rfl⟩⟩
              | 15, _, rfl =>
                have e14 : v14 = _ := hphi ⟨14, .data⟩ (by simp) rfl v14 rfl _ rfl
                have e7 : v7 = _ := hphi ⟨7, .guard⟩ (by simp) rfl v7 rfl _ rfl
                subst e7 e14
                exact .inl ⟨rfl, gives_value (v := .pointer (some ⟨b, off + m * 4, none⟩)) (w' := W) (by go_simp) ⟨Below.refl _ _, fun u hu => by cases hu; rfl⟩⟩
              | 16, _, rfl =>
                have e15 : v15 = _ := hphi ⟨15, .data⟩ (by simp) rfl v15 rfl _ rfl
                have e7 : v7 = _ := hphi ⟨7, .guard⟩ (by simp) rfl v7 rfl _ rfl
                subst e7 e15
                exact .inl ⟨rfl, gives_value (v := .string plab) (w' := W) (by go_simp) ⟨Below.refl _ _, fun u hu => by cases hu; rfl⟩⟩
              | 17, _, rfl =>
                have e9 : v9 = _ := hphi ⟨9, .data⟩ (by simp) rfl v9 rfl _ rfl
                have e16 : v16 = _ := hphi ⟨16, .data⟩ (by simp) rfl v16 rfl _ rfl
                have e7 : v7 = _ := hphi ⟨7, .guard⟩ (by simp) rfl v7 rfl _ rfl
                subst e7 e9 e16
                exact .inl ⟨rfl, gives_value (v := .bool le) (w' := W) (by go_simp) ⟨Below.refl _ _, fun u hu => by cases hu; rfl⟩⟩
              | 18, _, rfl =>
                have e7 : v7 = _ := hphi ⟨7, .data⟩ (by simp) rfl v7 rfl _ rfl
                have e17 : v17 = _ := hphi ⟨17, .data⟩ (by simp) rfl v17 rfl _ rfl
                have e4 : v4 = _ := hphi ⟨4, .guard⟩ (by simp) rfl v4 rfl _ rfl
                subst e4 e7 e17
                exact .inl ⟨rfl, gives_value (v := .bool le) (w' := W) (by go_simp) ⟨Below.refl _ _, fun u hu => by cases hu; rfl⟩⟩
              | i + 19, hi, _ => exact absurd hi (by omega)
            case' tailtrue1 =>
              intro vs W hv hR hphi
              obtain ⟨v0, v1, v2, v3, v4, v5, v6, v7, v8, v9, v10, v11, v12, v13, v14, v15, v16, v17, v18, rfl⟩ := list19 hv
              simp only [List.zip, List.zipWith, putAll, Act.put, List.setIfInBounds_toArray, List.set, List.drop]
              have e4 : v4 = _ := hphi 4 v4 rfl _ rfl
              have e18 : v18 = _ := hphi 18 v18 rfl _ rfl
              subst e4 e18
              have HBR : Hid (Below w1.heap.size w1 W) := HBa.out.trans (hR.mono HBa.out.size)
              have hlec : le = true ∨ le = false := by cases le <;> simp
              rcases hlec with rfl | rfl
              case inl =>
                have hF : Hid (¬ Vld ts) := fun h => by
                  have h1 := h.next (by omega) HPT.out HT.out
                  rw [HPL.out] at h1
                  have h2 : less plab lab = false := HLE.out
                  rw [h2] at h1; cases h1
                clear hle hwrap
                go_wp2
                go_ret
                exact VldEnd.no hF.out (HB1.out.trans (HBR.out.mono (by omega)))
              have HNX : Hid (∀ p, 0 < k → ts[k - 1]? = some p → less p.lab lab = true) := fun p _ h => by
                rw [HPT.out] at h; cases h
                rw [HPL.out]; exact HLE.out
              clear hle hwrap hmn HPT HLE HPL HPF
          all_goals
            have HKW := Lib.hid (HK0.out.below hR (by simp))
            have hWz := HBR.out.size
            have hrz : wr.heap.size < W.heap.size := HKW.out.lt
            have HBW : Hid (Below w.heap.size w W) := HB1.out.trans (HBR.out.mono (by omega))
            have t1 := HKW.out.cell 1; have t2 := HKW.out.cell 2; have t3 := HKW.out.cell 3
            simp only [List.getElem?_toArray, List.getElem?_cons_succ, List.getElem?_cons_zero] at t1 t2 t3
            have hdn : dn ≤ 9223372036854775807 := by have h1 := HTO.out.dle; have h2 := HTO.out.dmax; unfold maxLen at h2; simp only at h1 h2; omega
            have HDL : Hid (deps.length = dn) := HTO.out.dlen
            have HMW : Hid (Rm W Tryz.prog 9 (w.heap.size + 1) n (idxG ts)) := HM.out.below HBR.out hz1
            clear hR hphi hv y0 y1 y2 y3 g0 HBa HLF HGF HK0 hgt
            by_cases hkind : kind = 1 ∨ kind = 2
            case neg =>
              have hF : Hid (¬ Vld ts) := fun h => hkind (h.at_ HT.out).kind
              have q1 : (kind != 1) = true := by rw [bne_iff_ne]; exact fun e => hkind (.inl e)
              have q2 : (kind != 2) = true := by rw [bne_iff_ne]; exact fun e => hkind (.inr e)
              clear hkind
              go_wp2
              go_ret
              exact VldEnd.no hF.out HBW.out
            by_cases hfew : dn ≤ 20
            case neg =>
              have hF : Hid (¬ Vld ts) := fun h => by have := (h.at_ HT.out).few; simp only at this; rw [HDL.out] at this; exact hfew this
              have q3 : (20 : Int) < (dn : Int) := by omega
              clear hfew
              rcases hkind with rfl | rfl
              · go_wp2
                go_ret
                exact VldEnd.no hF.out HBW.out
              · go_wp2
                go_ret
                exact VldEnd.no hF.out HBW.out
            have q3 : ¬ (20 : Int) < (dn : Int) := by omega
            have HKI := Lib.hid hkind
            rcases hkind with rfl | rfl
            all_goals
              go_wp2
              go_loopw [60] (fun i wi => ∃ j : Nat, j ≤ dn ∧ i = .int .i64 j ∧ wi = W ∧ Hid (∀ d ∈ deps.take j, kindOf ts d = 1) ∧ Hid ((deps.take j).Nodup)) (fun i _ => dn - (intOf i).toNat)
              case atStart => exact ⟨0, Nat.zero_le _, rfl, rfl, (fun d h => by simp at h), by simp [Hid]⟩
              case round =>
                obtain ⟨j, hj, rfl, rfl, hD1, hD2⟩ := hrel
                by_cases hjn : j < dn
                · obtain ⟨db, doff, d, rfl, hdb, hd, y4⟩ := (HTO.out.below HBW.out hB).d.str_at hjn
                  have hds := HTO.out.ds d (List.mem_of_getElem? hd)
                  have HTK := Lib.hid (take_snoc hd)
                  have HDD := Lib.hid hd
                  have hlz2 : (j : Int) < (dn : Int) := by omega
                  have hlk := HMW.out.look Tryz.underlying9 Tryz.underlying132 (Tryz.zeroValue60 _) hds
                  obtain ⟨x0', x2', x3', hgx⟩ := idx_kind ts d
                  have hlk2 : (Instr.lookup 132 (.map (some (w.heap.size + 1))) (.string d) false).run Tryz.prog wr = .ok (.agg #[x0', .int .i64 (kindOf ts d), x2', x3']) wr := by rw [← hgx]; exact hlk
                  obtain ⟨kq, hkq⟩ : ∃ kq, kindOf ts d = kq := ⟨_, rfl⟩
                  rw [hkq] at hlk2
                  have HKQ := Lib.hid hkq
                  have hfd : ∀ w' : World, (Instr.field 60 (.agg #[x0', .int .i64 kq, x2', x3']) 1).run Tryz.prog w' = .ok (.int .i64 kq) w' := field1 x0' x2' x3' kq
                  clear hd hlk hgx hkq
                  by_cases hk1 : kq = 1
                  case neg =>
                    have hF : Hid (¬ Vld ts) := fun h => hk1 (by have := (h.at_ HT.out).dep d (List.mem_of_getElem? HDD.out); rw [HKQ.out] at this; exact this)
                    have q5 : (kq != 1) = true := by rw [bne_iff_ne]; exact hk1
                    clear hk1
                    go_wp2_with fail
                    go_ret
                    exact VldEnd.no hF.out HBW.out
                  subst hk1
                  have hsl : ∀ w' : World, (Instr.sliceAt 58 (.slice (some ⟨db, doff, none⟩) dn dc) none (some (.int .i64 j)) none).run Tryz.prog w' = .ok (.slice (some ⟨db, doff, none⟩) j dc) w' := fun w' => by
                    obtain ⟨i0, hi0, _⟩ := info_parts infoStr'
                    exact run_slice_to 58 i0 Tryz.underlying58 hi0 _ dn dc j (by have := HTO.out.dle; simp only at this; omega) w'
                  have HSL := Lib.hid (contains_any (some ⟨db, doff, none⟩) dn j dc B deps d wr (HTO.out.below HBW.out hB).d hj hdn)
                  cases hm : memB (deps.take j) d with
                  | true =>
                    have hF : Hid (¬ Vld ts) := fun h => by
                      have h1 := (h.at_ HT.out).nod
                      have h2 := (memB_iff _ _).1 hm
                      have h3 : (deps.take (j + 1)).Nodup := h1.sublist (List.take_sublist _ _)
                      rw [HTK.out, List.nodup_append] at h3
                      exact h3.2.2 d h2 d (by simp) rfl
                    rw [hm] at HSL
                    clear hm
                    go_wp2_with (go_at_call 119; refine HSL.out.mono ?_; rintro e w2 ⟨rfl, rfl⟩)
                    go_ret
                    exact VldEnd.no hF.out HBW.out
                  | false =>
                    have HD3 : Hid (∀ x ∈ deps.take (j + 1), kindOf ts x = 1) := fun x hx => by
                      rw [HTK.out] at hx
                      rcases List.mem_append.1 hx with hx | hx
                      · exact hD1.out x hx
                      · rw [List.mem_singleton.1 hx]; exact HKQ.out
                    have HD4 : Hid ((deps.take (j + 1)).Nodup) := by
                      show List.Nodup _
                      rw [HTK.out, List.nodup_append]
                      refine ⟨hD2.out, by simp, fun a ha b' hb' => ?_⟩
                      rintro rfl
                      rw [List.mem_singleton.1 hb'] at ha
                      rw [(memB_iff _ _).2 ha] at hm; cases hm
                    rw [hm] at HSL
                    clear hm
                    go_wp2_with (go_at_call 119; refine HSL.out.mono ?_; rintro e w2 ⟨rfl, rfl⟩)
                    go_roundw
                    case rel => exact ⟨j + 1, hjn, by go_num, trivial, HD3.out, HD4.out⟩
                    case measure => simp [intOf]; omega
                · have hlz2 : ¬ (j : Int) < (dn : Int) := by omega
                  have HD3 : Hid (∀ x ∈ deps, kindOf ts x = 1) := by
                    have h1 := hD1.out; rwa [List.take_of_length_le (by rw [HDL.out]; omega)] at h1
                  have HD4 : Hid (deps.Nodup) := by
                    have h1 := hD2.out; rwa [List.take_of_length_le (by rw [HDL.out]; omega)] at h1
                  clear hD1 hD2
                  have HBq : Hid (Below wr.heap.size wr (wr.alloc (.cells #[.int .i64 1, .string nameA, .slice none 0 0, .slice vA vn vc] 156))) := (Below.refl _ wr).alloc (Nat.le_refl _) _
                  have HCK := Lib.hid (checkOne_any vA vn vc B wr.heap.size vis (wr.alloc (.cells #[.int .i64 1, .string nameA, .slice none 0 0, .slice vA vn vc] 156)) ((HTO.out.below HBW.out hB).v.below HBq.out (by omega)) (by simp; omega) HTO.out.vle HTO.out.vmax HTO.out.vs (Bk.new wr _ _))
                  by_cases hv0 : visE vis = 0
                  case neg =>
                    have hF : Hid (¬ Vld ts) := fun h => hv0 (h.at_ HT.out).vis
                    obtain ⟨ve, hve⟩ : ∃ ve, visE vis = ve := ⟨_, rfl⟩
                    rw [hve] at HCK hv0
                    have q6 : (ve != 0) = true := by rw [bne_iff_ne]; exact hv0
                    clear hv0 hve
                    go_wp2_with (go_at_call 120; refine HCK.out.mono ?_; rintro e w2 ⟨rfl, hb2⟩)
                    go_ret
                    exact VldEnd.no hF.out (HBW.out.trans ((HBq.out.trans (hb2.mono (by simp))).mono HBW.out.size))
                  have HU2 : Hid (Upto ts (k + 1)) := hU.out.step HT.out ⟨HLAB.out, by first | exact .inl rfl | exact .inr rfl, by simp only; rw [HDL.out]; exact hfew, HD3.out, HD4.out, hv0⟩ HNX.out
                  rw [hv0] at HCK
                  clear hv0
                  go_wp2_with (go_at_call 120; refine HCK.out.mono ?_; rintro e w2 ⟨rfl, hb2⟩; refine halt_ ?_)
                  refine unhalt ?_
                  have HB2 : Hid (Below w1.heap.size w1 w2) := HBR.out.trans ((HBq.out.trans (hb2.mono (by simp))).mono HBR.out.size)
                  clear hb2
                  go_wp2
                  go_roundw
                  case rel => exact ⟨k + 1, hlt, by go_num, HU2.out, HB2.out⟩
                  case measure => simp [intOf]; omega
      · have hlz : ¬ (k : Int) < (n : Int) := by omega
        have HU2 : Hid (Upto ts ts.length) := by
          have h1 := hU.out
          have h2 : k = ts.length := by have := HTL.out; omega
          rwa [h2] at h1
        have HDM : Hid (∀ t ∈ ts, t.deps.length ≤ 1000) := fun t ht => by
          obtain ⟨j, hj, e⟩ := List.getElem_of_mem ht
          have := (HU2.out j t hj (by rw [← e]; exact List.getElem?_eq_getElem _)).1.few
          omega
        have HCY := Lib.hid (cycle_any A n c B 1000 ts wr (H0.out.below HBw.out hB) (fun t ht => (HOK.out t ht).below HBw.out hB) (Nat.le_trans hB HBw.out.size) (by omega) HDM.out (by omega))
        go_wp2_with (go_at_call 121; refine HCY.out.mono ?_; rintro e w2 ⟨A', m, c', l, rfl, hS, hC, hb2⟩; refine halt_ ?_)
        refine unhalt ?_
        have HLm : Hid (l.length = m) := by have := hS.1; rw [strs_len] at this; show _ = _; omega
        have HC := Lib.hid hC
        have HB2 : Hid (Below w.heap.size w w2) := HBw.out.trans (hb2.mono HBw.out.size)
        clear hS hC hb2 HCY
        by_cases hm0 : m = 0
        · have q7 : ((m : Int) == 0) = true := by rw [beq_iff_eq]; omega
          have hF : Hid (Vld ts) := by
            refine HU2.out.vld (by rw [HTL.out]; omega) ?_
            rcases HC.out with ⟨_, h⟩ | ⟨_, _, _, _, h, _⟩
            · exact h
            · exact absurd (List.eq_nil_of_length_eq_zero (by rw [HLm.out]; exact hm0)) h
          clear hm0
          go_wp2
          go_ret
          exact ⟨true, rfl, ⟨fun _ => hF.out, fun _ => rfl⟩, HB2.out⟩
        · have q7 : ((m : Int) == 0) = false := by rw [beq_eq_false_iff_ne]; omega
          have hF : Hid (¬ Vld ts) := fun h => by
            rcases HC.out with ⟨h1, _⟩ | ⟨s, _, _, _, _, _, h1, _⟩
            · exact hm0 (by rw [← HLm.out, h1]; rfl)
            · exact h.free s h1
          clear hm0
          go_wp2
          go_ret
          exact VldEnd.no hF.out HB2.out
end Go.Proofs.YtiphbincnnppdaaGreatDoor

namespace Go.Proofs.YtiphbincnnppdaaGreatDoor
open Go.RowKit Go.Shelf

def okP : Option ByteArray → ByteArray → Bool
  | none, _ => true
  | some q, s => less q s
/-- why files are not those of an output; the path ahead of them -/
noncomputable def chkF : Option ByteArray → List Fl → Int
  | _, [] => 0
  | p, f :: r => if fnB f.1 = false then 6 else if 65536 < f.2.size then 4 else if okP p f.1 = false then 10 else chkF (some f.1) r
noncomputable def chkO (fd : Bool) (msg : ByteArray) (fs : List Fl) : Int :=
  if fd = true then (if msg.size = 0 ∨ 0 < fs.length then 1 else if 300 < msg.size then 4 else 0) else if msg.size ≠ 0 then 1 else if 10 < fs.length then 4 else chkF none fs
def prevF (fs : List Fl) (k : Nat) : Option ByteArray := if k = 0 then none else (fs[k - 1]?).map Prod.fst
theorem chkF_at {fs : List Fl} {k : Nat} {f : Fl} (h : fs[k]? = some f) :
    chkF (prevF fs k) (fs.drop k) = if fnB f.1 = false then 6 else if 65536 < f.2.size then 4 else if okP (prevF fs k) f.1 = false then 10 else chkF (prevF fs (k + 1)) (fs.drop (k + 1)) := by
  have hk := (List.getElem?_eq_some_iff.1 h).1
  have e : fs.drop k = f :: fs.drop (k + 1) := by
    rw [List.drop_eq_getElem_cons hk]; congr 1; exact (List.getElem?_eq_some_iff.1 h).2
  rw [e, chkF]
  have : prevF fs (k + 1) = some f.1 := by unfold prevF; rw [if_neg (by omega), Nat.add_sub_cancel, h]; rfl
  rw [this]
theorem str_empty (s : ByteArray) : (s.toList == []) = decide (s.size = 0) := by
  rw [ByteArray.toList_eq, size_len]
  cases s.data.toList <;> simp

set_option maxRecDepth 100000 in
set_option maxHeartbeats 4000000 in
theorem checkOutput_any (fd : Bool) (msg : ByteArray) (A : Option Addr) (n c B : Nat) (fs : List Fl) (w : World) (h0 : Sl w B 2 A n (flat flC fs)) (hB : B ≤ w.heap.size) (hn : n ≤ maxLen) (hfs : ∀ f ∈ fs, f.1.size ≤ maxLen) :
    Calls Tryz.prog 46 #[.agg #[.bool fd, .string msg, .slice A n c]] w fun e w' => e = .returned (.int .i64 (chkO fd msg fs)) ∧ Below w.heap.size w w' := by
  have HL := Lib.hid (h0.len flC_len (by omega))
  have hn' : n ≤ 9223372036854775807 := by unfold maxLen at hn; exact hn
  have H0 := Lib.hid h0; have HFS := Lib.hid hfs
  clear h0 hfs
  have HM : Hid (chkO fd msg fs = if fd = true then (if msg.size = 0 ∨ 0 < fs.length then 1 else if 300 < msg.size then 4 else 0) else if msg.size ≠ 0 then 1 else if 10 < fs.length then 4 else chkF none fs) := rfl
  rw [HL.out] at HM
  have hem := str_empty msg
  obtain ⟨W, hW⟩ : ∃ W, w.alloc (.cells #[.bool fd, .string msg, .slice A n c] 50) = W := ⟨_, rfl⟩
  have HB : Hid (Below w.heap.size w W) := by rw [← hW]; exact (Below.refl w.heap.size w).alloc (Nat.le_refl _) _
  have K0 : Hid (Bk W w.heap.size 50 #[.bool fd, .string msg, .slice A n c]) := by rw [← hW]; exact Bk.new w _ _
  have u0 := K0.out.cell 0; have u1 := K0.out.cell 1; have u2 := K0.out.cell 2
  simp at u0 u1 u2
  have zW : W.heap.size = w.heap.size + 1 := by rw [← hW]; simp
  generalize chkO fd msg fs = r at *
  cases fd with
  | true =>
    rw [if_pos rfl] at HM
    by_cases e1 : msg.size = 0
    · rw [decide_eq_true e1] at hem
      rw [if_pos (.inl e1)] at HM
      clear e1
      go_enter Tryz.func46, Tryz.ntmps46
      go_wp2_with fail
      go_ret
      exact ⟨ret_int HM.out.symm, HB.out⟩
    · rw [decide_eq_false e1] at hem
      by_cases e2 : 0 < n
      · rw [if_pos (.inr e2)] at HM
        have e2z : (0 : Int) < (n : Int) := by omega
        clear e1 e2
        go_enter Tryz.func46, Tryz.ntmps46
        go_wp2_with fail
        go_ret
        exact ⟨ret_int HM.out.symm, HB.out⟩
      · rw [if_neg (by omega)] at HM
        have e2z : ¬ (0 : Int) < (n : Int) := by omega
        by_cases e3 : 300 < msg.size
        · rw [if_pos e3] at HM
          have e3z : (300 : Int) < (msg.size : Int) := by omega
          clear e1 e2 e3
          go_enter Tryz.func46, Tryz.ntmps46
          go_wp2_with fail
          go_ret
          exact ⟨ret_int HM.out.symm, HB.out⟩
        · rw [if_neg e3] at HM
          have e3z : ¬ (300 : Int) < (msg.size : Int) := by omega
          clear e1 e2 e3
          go_enter Tryz.func46, Tryz.ntmps46
          go_wp2_with fail
          go_ret
          exact ⟨ret_int HM.out.symm, HB.out⟩
  | false =>
    rw [if_neg (by decide)] at HM
    by_cases e1 : msg.size = 0
    · rw [decide_eq_true e1] at hem
      rw [if_neg (by omega)] at HM
      clear e1
      by_cases e2 : 10 < n
      · rw [if_pos e2] at HM
        have e2z : (10 : Int) < (n : Int) := by omega
        clear e2
        go_enter Tryz.func46, Tryz.ntmps46
        go_wp2_with fail
        go_ret
        exact ⟨ret_int HM.out.symm, HB.out⟩
      · rw [if_neg e2] at HM
        have e2z : ¬ (10 : Int) < (n : Int) := by omega
        clear e2
        go_enter Tryz.func46, Tryz.ntmps46
        go_wp2_with fail
        go_loopw [30] (fun q wr => ∃ k : Nat, k ≤ n ∧ q = .int .i64 k ∧ Hid (r = chkF (prevF fs k) (fs.drop k)) ∧ Hid (Bk wr w.heap.size 50 #[.bool false, .string msg, .slice A n c]) ∧ Hid (Below w.heap.size w wr)) (fun q _ => n - (intOf q).toNat)
        case atStart => exact ⟨0, Nat.zero_le _, rfl, HM.out, K0.out, HB.out⟩
        case round =>
          obtain ⟨k, hk, rfl, hK, hBk, hBel⟩ := hrel
          by_cases hlt : k < n
          · obtain ⟨b, off, f, rfl, hb, hf, y0, y1⟩ := (H0.out.below hBel.out hB).fl hlt
            have hlz : (k : Int) < (n : Int) := by omega
            have hC := hK.out
            rw [chkF_at hf] at hC
            have HC := Lib.hid hC
            have HF := Lib.hid hf
            clear hC hf
            obtain ⟨W1, hW1⟩ : ∃ W1, wr.alloc (.cells #[.string f.1, .string f.2] 62) = W1 := ⟨_, rfl⟩
            have hwr := hBel.out.size
            have HB1 : Hid (Below w.heap.size w W1) := by rw [← hW1]; exact hBel.out.alloc hwr _
            have kf : Bk W1 wr.heap.size 62 #[.string f.1, .string f.2] := by rw [← hW1]; exact Bk.new wr _ _
            have ko : Bk W1 w.heap.size 50 #[.bool false, .string msg, .slice (some ⟨b, off, none⟩) n c] := by rw [← hW1]; exact hBk.out.alloc _
            have hz1 : W1.heap.size = wr.heap.size + 1 := by rw [← hW1]; simp
            have hoz := hBk.out.lt
            have x0 := kf.cell 0; simp at x0
            have KF := Lib.hid kf; have KO := Lib.hid ko
            have HFN := Lib.hid (fileName_any f.1 W1 (HFS.out f (List.mem_of_getElem? HF.out)))
            clear kf ko
            go_wp2_with fail
            refine HFN.out.mono ?_
            rintro e w2 ⟨rfl, hb2⟩
            have hz2 := hb2.size
            have KF2 := Lib.hid (KF.out.below hb2 (by omega)); have KO2 := Lib.hid (KO.out.below hb2 (by omega))
            have HB2 : Hid (Below w.heap.size w w2) := HB1.out.trans (hb2.mono (by omega))
            have x0 := KF2.out.cell 0; have x1 := KF2.out.cell 1; have x2 := KO2.out.cell 2
            simp at x0 x1 x2
            clear hb2 HFN KF KO
            cases hfn : fnB f.1 with
            | false =>
              have HE : Hid (r = 6) := by show _ = _; rw [HC.out, if_pos hfn]
              clear hfn
              go_wp2_with fail
              go_ret
              exact ⟨ret_int HE.out.symm, HB2.out⟩
            | true =>
              rw [hfn, if_neg (by decide)] at HC
              clear hfn
              by_cases hsz : 65536 < f.2.size
              · have hszz : (65536 : Int) < (f.2.size : Int) := by omega
                have HE : Hid (r = 4) := by show _ = _; rw [HC.out, if_pos hsz]
                clear hsz
                go_wp2_with fail
                go_ret
                exact ⟨ret_int HE.out.symm, HB2.out⟩
              · have hszz : ¬ (65536 : Int) < (f.2.size : Int) := by omega
                rw [if_neg hsz] at HC
                clear hsz
                cases k with
                | zero =>
                  have HN : Hid (r = chkF (prevF fs 1) (fs.drop 1)) := by
                    show _ = _
                    rw [HC.out, if_neg]
                    simp [prevF, okP]
                  go_wp2_with fail
                  go_quiet (fail)
                  go_wp2_with fail
                  go_roundw
                  case rel => exact ⟨1, by omega, by go_num, HN.out, KO2.out, below_drewN HB2.out _⟩
                  case measure => simp [intOf]; omega
                | succ k =>
                  obtain ⟨b', off', p, hbe, _, hp, p0, _⟩ := (H0.out.below HB2.out hB).fl (show k < n by omega)
                  cases hbe
                  obtain ⟨le, hle⟩ : ∃ le, (Op.bytesLess f.1.toList p.1.toList || f.1.toList == p.1.toList) = le := ⟨_, rfl⟩
                  have hls := le_not_less hle
                  have hpv : prevF fs (k + 1) = some p.1 := by unfold prevF; rw [if_neg (by omega), Nat.add_sub_cancel, hp]; rfl
                  rw [hpv, okP] at HC
                  have hg0 : decide ((0 : Int) < ((k + 1 : Nat) : Int)) = true := by rw [decide_eq_true_iff]; omega
                  clear hp hpv
                  rw [hls] at HC
                  clear hls
                  cases le with
                  | false =>
                    have HN : Hid (r = chkF (prevF fs (k + 1 + 1)) (fs.drop (k + 1 + 1))) := by show _ = _; rw [HC.out, if_neg (by decide)]
                    clear HC
                    go_wp2_with fail
                    go_quiet (fail)
                    go_wp2_with fail
                    go_roundw
                    case rel => exact ⟨k + 1 + 1, by omega, by go_num, HN.out, KO2.out, below_drewN HB2.out _⟩
                    case measure => simp [intOf]; omega
                  | true =>
                    have HE : Hid (r = 10) := by show _ = _; rw [HC.out, if_pos (by decide)]
                    clear HC
                    go_wp2_with fail
                    go_quiet (fail)
                    go_wp2_with fail
                    go_ret
                    exact ⟨ret_int HE.out.symm, below_drewN HB2.out _⟩
          · have hlz : ¬ (k : Int) < (n : Int) := by omega
            have HE : Hid (r = 0) := by
              show _ = _
              rw [hK.out, List.drop_of_length_le (by rw [HL.out]; omega), chkF]
            go_wp2_with fail
            go_ret
            exact ⟨ret_int HE.out.symm, hBel.out⟩
    · rw [decide_eq_false e1] at hem
      rw [if_pos e1] at HM
      clear e1
      go_enter Tryz.func46, Tryz.ntmps46
      go_wp2_with fail
      go_ret
      exact ⟨ret_int HM.out.symm, HB.out⟩
end Go.Proofs.YtiphbincnnppdaaGreatDoor

namespace Go.Proofs.YtiphbincnnppdaaGreatDoor
open Go.RowKit

/-- Of all that is no builder and no row of bytes, nothing turns. -/
structure Kt (w w' : World) : Prop where
  others : KeepsOthers w w'
  same : ∀ (k : Nat) (cs : Array Value) (t : TypeId) (fr : Nat × Nat), t ≠ 5 → t ≠ 74 → w.heap[k]? = some (.cells cs t fr) → w'.heap[k]? = some (.cells cs t fr)
theorem Kt.refl (w : World) : Kt w w := ⟨KeepsOthers.refl w, fun _ _ _ _ _ _ h => h⟩
theorem Kt.trans {a b c : World} (h : Kt a b) (k : Kt b c) : Kt a c := ⟨h.others.trans k.others, fun i cs t fr h5 h9 hi => k.same i cs t fr h5 h9 (h.same i cs t fr h5 h9 hi)⟩
theorem Kt.alloc (w : World) (o : Obj) : Kt w (w.alloc o) := ⟨KeepsOthers.alloc w o, fun k _ _ _ _ _ h => (Below.heap_alloc w o k (Array.getElem?_eq_some_iff.1 h).1).trans h⟩
theorem Kt.setCell {w : World} {b i : Nat} {cs : Array Value} {fr : Nat × Nat} (hb : w.heap[b]? = some (.cells cs 74 fr)) (v : Value) : Kt w (w.setCell ⟨b, i, none⟩ v) :=
  ⟨KeepsOthers.setCell _ _ _, fun k cs' t fr' _ h9 h => (Below.heap_setCell w ⟨b, i, none⟩ v k (fun e => by
    have e' : k = b := e
    rw [e', hb] at h
    simp only [Option.some.injEq, Obj.cells.injEq] at h
    exact h9 h.2.1.symm)).trans h⟩
theorem Kt.grown {w w' : World} {base size n : Nat} {v : Value} {xs : List Value} (hown : w.ownsRow base 5 size v n xs) (hg : w.grownBy w' v.ownBlock) : Kt w w' := by
  have key : ∀ j, v.ownBlock = some j → ∃ cur, w.heap[j]? = some (.cells cur 5 (0, 0)) := by
    intro j hj
    rcases hown.2 with ⟨hv, _⟩ | ⟨g, cap, cur, hv, _, hh, _⟩
    · rw [hv] at hj; cases hj
    · rw [hv] at hj; cases hj; exact ⟨cur, hh⟩
  refine ⟨KeepsOthers.of_grownBy hg fun j o hj ho => ?_, fun k cs t fr h5 _ h => ?_⟩
  · obtain ⟨cur, hc⟩ := key j hj
    rw [hc] at ho; cases ho; rfl
  · refine (hg.block k (Array.getElem?_eq_some_iff.1 h).1 (fun e => ?_)).trans h
    obtain ⟨cur, hc⟩ := key k e.symm
    rw [hc] at h
    simp only [Option.some.injEq, Obj.cells.injEq] at h
    exact h5 h.2.1.symm
theorem infoByte : (Tryz.prog.info? 5).map (fun i => (i.zero, i.size, i.bytes)) = some (some (.int .u8 0), 1, 1) := by kernel_rfl

set_option maxHeartbeats 1000000 in
set_option maxRecDepth 100000 in
theorem copy_used (b : Nat) (w : World) (h0 : w.cell? ⟨b, 0, none⟩ = some (.pointer (some ⟨b, 0, none⟩))) :
    Calls Tryz.prog 83 #[.pointer (some ⟨b, 0, none⟩)] w fun e w' => e = .returned (.tuple #[]) ∧ w' = w := by
  obtain ⟨j, hj, _⟩ := Option.map_eq_some_iff.1 Tryz.Builder_Extra_169.sizeBuilder
  go_enter Tryz.func83, Tryz.ntmps83
  go_wp2
  rw [Lib.run_neq_ptr_same w _ Tryz.underlying71 hj]
  go_wp2
  go_end0
  exact ⟨rfl, rfl⟩

set_option maxHeartbeats 1000000 in
set_option maxRecDepth 100000 in
theorem copy_fresh (b : Nat) (w : World) (h0 : w.cell? ⟨b, 0, none⟩ = some (.pointer none)) (hsh : w.shape? b = some (74, 2)) (hfz : w.frozen? ⟨b, 0, none⟩ = false) :
    Calls Tryz.prog 83 #[.pointer (some ⟨b, 0, none⟩)] w fun e w' => e = .returned (.tuple #[]) ∧ w' = w.setCell ⟨b, 0, none⟩ (.pointer (some ⟨b, 0, none⟩)) := by
  obtain ⟨j, hj, hjs⟩ := Option.map_eq_some_iff.1 Tryz.Builder_Extra_169.sizeBuilder
  go_enter Tryz.func83, Tryz.ntmps83
  go_wp2
  rw [Lib.run_to_unsafe w ⟨b, 0, none⟩ Tryz.underlying71 Tryz.underlying165 hj (by rw [hjs]; decide) hsh (Nat.zero_lt_succ 1)]
  simp only [Result.andThen]
  rw [Oper.upon_value]
  go_wp2
  rw [run_callFunc_extern Tryz.func114 (by kernel_rfl) (by kernel_rfl) (by kernel_rfl) (e := Extern.AbiNoEscape.same) (by kernel_rfl)]
  rw [Lib.run_noEscape]
  simp only [Result.andThen]
  rw [Oper.upon_value]
  go_wp2
  rw [Lib.run_from_unsafe w ⟨b, 0, none⟩ Tryz.underlying165 Tryz.underlying71 hj hsh Tryz.Builder_Extra_169.liesBuilder]
  simp only [Result.andThen]
  rw [Oper.upon_value]
  go_wp2
  go_end0
  exact ⟨rfl, rfl⟩

theorem copy_any (B b : Nat) (bs : List Value) (w : World) (h : Lib.IsBuilder 74 5 B b bs w) :
    Calls Tryz.prog 83 #[.pointer (some ⟨b, 0, none⟩)] w fun e w' => e = .returned (.tuple #[]) ∧ (Lib.BuilderAt 74 5 B b (.pointer (some ⟨b, 0, none⟩)) bs w' ∧ Below B w w' ∧ Kt w w') := by
  rcases h with h | h
  · refine (copy_fresh b w h.cell0 h.shape h.frozen0).mono ?_
    rintro e w' ⟨rfl, rfl⟩
    obtain ⟨_, v, hb, _⟩ := id h
    exact ⟨rfl, h.used _, (Below.refl B w).setCell (p := ⟨b, 0, none⟩) h.1 _, Kt.setCell hb _⟩
  · refine (copy_used b w h.cell0).mono ?_
    rintro e w' ⟨rfl, rfl⟩
    exact ⟨rfl, h, Below.refl B _, Kt.refl _⟩

set_option maxHeartbeats 2000000 in
set_option maxRecDepth 100000 in
theorem writeByte_any (B b : Nat) (bs : List Value) (c : Int) (w : World) (h : Lib.IsBuilder 74 5 B b bs w) (hlen : bs.length + 1 ≤ 140737488355328) (hBw : B ≤ w.heap.size) :
    Calls Tryz.prog 113 #[.pointer (some ⟨b, 0, none⟩), .int .u8 c] w fun e w' => e = .returned .nilIface ∧ (Lib.BuilderAt 74 5 B b (.pointer (some ⟨b, 0, none⟩)) (bs ++ [.int .u8 c]) w' ∧ Below B w w' ∧ Kt w w') := by
  obtain ⟨i0, hi, hz0, hz1, hz2⟩ := info_parts infoByte
  go_enter Tryz.func113, Tryz.ntmps113
  go_wp2_with fail
  refine (copy_any B b bs _ h).mono ?_
  rintro e w1 ⟨rfl, h1, hb1, hk1⟩
  have HK1 := Lib.hid hk1; clear hk1
  obtain ⟨hB, v, hbk, hown, hne⟩ := h1
  have c0 : w1.cell? ⟨b, 0, none⟩ = some (.pointer (some ⟨b, 0, none⟩)) := by rw [Lib.cell_of_heap hbk]; rfl
  have c1 : w1.cell? ⟨b, 1, none⟩ = some v := by rw [Lib.cell_of_heap hbk]; rfl
  go_wp2_with (at_builtin; refine wpList_append_own _ rfl _ _ 72 rfl B 5 i0 (.int .u8 0) 1 1 Tryz.underlying72 hi hz0 hz1 hz2 rfl (by decide) _ _ _ rfl (hown.alloc _) ⟨w1.heap.size, 0, none⟩ 1 1 [.int .u8 c] rfl rfl ?c1 ?c2 ?c3 ?c4 ?c5 ?_)
  case c1 =>
    intro j u hj
    match j, hj with
    | 0, hj => simp at hj; subst hj; simp [Addr.add]
  case c2 => intro u hu; simp at hu; subst hu; rfl
  case c3 => unfold maxLen; omega
  case c4 => omega
  case c5 => have := hb1.size; simp; omega
  intro v' w2 hown' hgrow _
  have HK2 : Hid (Kt w w2) := (HK1.out.trans (Kt.alloc _ _)).trans (Kt.grown (hown.alloc _) hgrow)
  have hlt : b < w1.heap.size := (Array.getElem?_eq_some_iff.1 hbk).1
  have hb2 : w2.heap[b]? = some (.cells #[.pointer (some ⟨b, 0, none⟩), v] 74 (0, 0)) := by
    rw [hgrow.block b (by simp; omega) (fun e => hne e.symm), Lib.alloc_old w1 _ b hlt]
    exact hbk
  have d0 : w2.cell? ⟨b, 0, none⟩ = some (.pointer (some ⟨b, 0, none⟩)) := by rw [Lib.cell_of_heap hb2]; rfl
  have d1 : w2.cell? ⟨b, 1, none⟩ = some v := by rw [Lib.cell_of_heap hb2]; rfl
  have f1 : w2.frozen? ⟨b, 1, none⟩ = false := Lib.frozen_of_heap hb2 1
  obtain ⟨g, cap, rfl⟩ : ∃ g cap, v' = .slice (some ⟨g, 0, none⟩) (bs.length + 1) cap := by
    rcases hown'.2 with ⟨_, h0⟩ | ⟨g, cap, cur, hv, _⟩
    · omega
    · exact ⟨g, cap, hv⟩
  go_wp2
  go_ret
  refine ⟨rfl, ?_, ?_, HK2.out.trans (Kt.setCell hb2 _)⟩
  · exact Lib.BuilderAt.put (T := 74) (e := 5) hB hb2 (bs' := bs ++ [.int .u8 c]) (by simpa using hown') (by decide)
  · exact ((hb1.alloc (by have := hb1.size; omega) _).grown hgrow (by have := hb1.size; simp; omega) (fun k hk => (hown.lt k hk).1)).setCell (p := ⟨b, 1, none⟩) hB _

set_option maxHeartbeats 2000000 in
set_option maxRecDepth 100000 in
theorem writeString_any (B b : Nat) (bs : List Value) (s : ByteArray) (w : World) (h : Lib.IsBuilder 74 5 B b bs w) (hlen : bs.length + s.size ≤ 140737488355328) (hBw : B ≤ w.heap.size) :
    Calls Tryz.prog 61 #[.pointer (some ⟨b, 0, none⟩), .string s] w fun e w' => e = .returned (.tuple #[.int .i64 s.size, .nilIface]) ∧ (Lib.BuilderAt 74 5 B b (.pointer (some ⟨b, 0, none⟩)) (bs ++ Lib.strCells s) w' ∧ Below B w w' ∧ Kt w w') := by
  obtain ⟨i0, hi, hz0, hz1, hz2⟩ := info_parts infoByte
  go_enter Tryz.func61, Tryz.ntmps61
  go_wp2_with fail
  refine (copy_any B b bs _ h).mono ?_
  rintro e w1 ⟨rfl, h1, hb1, hk1⟩
  have HK1 := Lib.hid hk1; clear hk1
  obtain ⟨hB, v, hbk, hown, hne⟩ := h1
  have c0 : w1.cell? ⟨b, 0, none⟩ = some (.pointer (some ⟨b, 0, none⟩)) := by rw [Lib.cell_of_heap hbk]; rfl
  have c1 : w1.cell? ⟨b, 1, none⟩ = some v := by rw [Lib.cell_of_heap hbk]; rfl
  go_wp2_with (at_builtin; refine Lib.wpList_append_own_string _ rfl _ _ 72 9 rfl B 5 i0 Tryz.underlying72 Tryz.underlying9 hi hz0 hz1 hz2 _ _ _ rfl hown s rfl ?c3 ?c4 ?c5 ?_)
  case c3 => unfold maxLen; omega
  case c4 => omega
  case c5 => have := hb1.size; omega
  intro v' w2 hown' hgrow _
  have HK2 : Hid (Kt w w2) := HK1.out.trans (Kt.grown hown hgrow)
  have hlt : b < w1.heap.size := (Array.getElem?_eq_some_iff.1 hbk).1
  have hb2 : w2.heap[b]? = some (.cells #[.pointer (some ⟨b, 0, none⟩), v] 74 (0, 0)) := by
    rw [hgrow.block b hlt (fun e => hne e.symm)]
    exact hbk
  have d0 : w2.cell? ⟨b, 0, none⟩ = some (.pointer (some ⟨b, 0, none⟩)) := by rw [Lib.cell_of_heap hb2]; rfl
  have d1 : w2.cell? ⟨b, 1, none⟩ = some v := by rw [Lib.cell_of_heap hb2]; rfl
  have f1 : w2.frozen? ⟨b, 1, none⟩ = false := Lib.frozen_of_heap hb2 1
  obtain ⟨ao, n', cap, rfl⟩ : ∃ ao n' cap, v' = .slice ao n' cap := by
    rcases hown'.2 with ⟨hv, _⟩ | ⟨g, cap, cur, hv, _⟩
    · exact ⟨_, _, _, hv⟩
    · exact ⟨_, _, _, hv⟩
  go_wp2
  go_ret2
  refine ⟨rfl, ?_, ?_, HK2.out.trans (Kt.setCell hb2 _)⟩
  · exact Lib.BuilderAt.put (T := 74) (e := 5) hB hb2 (bs' := bs ++ Lib.strCells s) (by simpa [Lib.strCells_length] using hown') (by decide)
  · exact (hb1.grown hgrow (by have := hb1.size; omega) (fun k hk => (hown.lt k hk).1)).setCell (p := ⟨b, 1, none⟩) hB _
end Go.Proofs.YtiphbincnnppdaaGreatDoor
