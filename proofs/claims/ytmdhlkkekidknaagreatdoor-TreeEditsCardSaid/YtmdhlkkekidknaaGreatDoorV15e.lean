/-
  Lemmas: The chapter's example, and reading with another fuel; in plain Lean. The reference's comparing of files, of pools and of changes. cordwoodlaw09.awake. The reference's bounds on files (XGr9's first part, for seats without graph.checkTarget). tree.Diff. TreePatch and TreeRoundTrip in plain Lean: what Diff and Patch answer on what is stored. The reference's bounds and check of pools; the law's valid. cordwoodlaw09.valid, cordwoodlaw09.samePool. The arguments that come in (law09): digests, pools, changes.
-/
import Derived.Deep.QuietTactic
import Derived.BigQuiet
import Derived.Laws.StructEq
import Derived.Test.YtmdhlkkekidknaaGreatDoorV14
import Derived.Test.YtmdhlkkekidknaaGreatDoorV13
import Derived.Test.YtmdhlkkekidknaaGreatDoorV4
import Derived.Test.YtmdhlkkekidknaaGreatDoorV1
import Derived.Test.YtmdhlkkekidknaaGreatDoorV9
import Derived.Test.YtmdhlkkekidknaaGreatDoorV6
import Derived.Test.YtmdhlkkekidknaaGreatDoorV2

namespace Go.Proofs.YtmdhlkkekidknaaGreatDoor
open Go.RowKit

theorem split_deep {s : ByteArray} (h : deN s = true) : splitS (bl s) = bl (fsN s) :: splitS (bl (rsN s)) := by
  rw [cut_deep h]; exact splitS_seg _ _ (fsN_nosl s)
theorem getF_more {p : List Itm} : ∀ (m : Nat) (d : Dig) (s : ByteArray), (splitS (bl s)).length ≤ m → getF p m d s = getF p (splitS (bl s)).length d s
  | 0, d, s, h => absurd h (by have := List.length_pos_iff.2 (splitS_ne (bl s)); omega)
  | m + 1, d, s, h => by
    obtain ⟨n, hn⟩ : ∃ n, (splitS (bl s)).length = n + 1 := ⟨(splitS (bl s)).length - 1, by have := List.length_pos_iff.2 (splitS_ne (bl s)); omega⟩
    rw [hn]
    cases hd : deN s with
    | false => rw [getF, getF]; simp only [hd, Bool.false_eq_true, if_false]
    | true =>
      have hs := split_deep hd
      have hl : (splitS (bl (rsN s))).length = n := by rw [hs, List.length_cons] at hn; omega
      have ih := fun d => getF_more (p := p) m d (rsN s) (by omega)
      rw [hl] at ih
      rw [getF, getF]; simp only [hd, if_true, ih]
theorem std_gtR {q : List Itm} (hq : PlOk q) {k : Nat} {d : Dig} {l : List Fl} (hl : OkL l) (hs : Std q k d l) {s : ByteArray} (hp : pathB s = true) :
    (∀ b, (s, b) ∈ l → gtR q d s = (b, 0)) ∧ ((∀ f ∈ l, f.1 ≠ s) → (gtR q d s).2 ≠ 0 ∧ ((∀ f ∈ l, belB f.1 s = false ∧ belB s f.1 = false) → (gtR q d s).2 = 8)) := by
  have h1 := splitS_size (bl s)
  have h2 : (bl s).length = s.size := by simp [bl]
  have h := std_get hq k d l hl hs (s.size + 1) s hp (by omega)
  rw [getF_more (s.size + 1) d s (by omega)] at h
  unfold gtR
  rw [if_pos hp]
  exact h
theorem ascAw : AscF awL := by unfold AscF; decide +kernel
theorem okAw : OkL awL where
  path := by decide +kernel
  data := by decide +kernel
  few := by decide
  nod := asc_nodup ascAw
  nob := by decide +kernel
theorem ckAw : TckR awL 0 := ck_back okAw ascAw
def dR : Dig := ofB bR
theorem plAw : PlOk q4 := (sto_std 101 [] awL q4 dR okAw PlOk.nil sto_aw).2.1
theorem stdAw : Std q4 101 dR awL := (sto_std 101 [] awL q4 dR okAw PlOk.nil sto_aw).1
theorem ldAw : LdSeq q4 dR awL := std_load plAw okAw stdAw ascAw
theorem ld_uniq {p : List Itm} {d : Dig} {a b : List Fl} (ha : LdSeq p d a) (hb : LdSeq p d b) : a = b :=
  AscF.ext ha.asc hb.asc (fun _ => (ha.perm.mem_iff).trans (hb.perm.mem_iff).symm)
theorem ld_not {p : List Itm} {d : Dig} {a : List Fl} {err : Int} (ha : LdSeq p d a) (h : LodE p d err) : False := by
  rcases h with ⟨h, _⟩ | ⟨_, h, _⟩
  · have := ha.few; omega
  · exact h ha.ok
theorem aw_store {w w' : World} {e : Ending} (h : StrE [] awL w e w') : ∃ A c, e = .returned (.tuple #[.slice A 4 c, digV dR, .int .i64 0]) ∧ Sl w' w'.heap.size 3 A 4 (flat itC q4) ∧ 4 ≤ c ∧ c ≤ maxLen ∧ Below w.heap.size w w' := by
  obtain ⟨h, hb⟩ := h
  rcases h with ⟨z, hz, hn, _⟩ | ⟨_, ⟨q, d, A, c, h1, _, rfl, h3, h4, h5⟩ | ⟨h1, _⟩⟩
  · exact absurd (TckR.same hz ckAw) hn
  · rw [sto_aw] at h1
    injection h1 with h1
    injection h1 with h1 h2
    subst h1; subst h2
    rw [q4_len] at h3 h4
    exact ⟨A, c, by rw [q4_len]; rfl, h3, h4, h5, hb⟩
  · rw [sto_aw] at h1; cases h1
theorem aw_load {w w' : World} {e : Ending} (h : LdEE q4 dR w e w') : ∃ A c, e = .returned (.tuple #[.slice A 2 c, .int .i64 0]) ∧ Sl w' w'.heap.size 2 A 2 (flat flC awL) ∧ Below w.heap.size w w' := by
  obtain ⟨h, hb⟩ := h
  rcases h with ⟨fs, A, c, h1, rfl, h3⟩ | ⟨err, h1, _⟩
  · have := ld_uniq h1 ldAw
    subst this
    exact ⟨A, c, rfl, Sl.of_own h3, hb⟩
  · exact (ld_not ldAw h1).elim
theorem aw_set {w w' : World} {e : Ending} (h : EdtE q4 dR (setF sA s3) w e w') : e = .returned (.tuple #[.slice none 0 0, digV zD, .int .i64 7]) ∧ Below w.heap.size w w' := by
  obtain ⟨h, hb⟩ := h
  refine ⟨?_, hb⟩
  have hpa : pathB sA = true := by decide +kernel
  have hset : setF sA s3 awL = (0, withF awL (sA, s3)) := by unfold setF; rw [if_pos hpa]
  have hdat : ∀ f ∈ withF awL (sA, s3), f.2.size ≤ 60000 := fun f hf => by
    rcases mem_withF.1 hf with ⟨h1, _⟩ | rfl
    · exact okAw.data f h1
    · decide
  have hno : ¬ TckR (withF awL (sA, s3)) 0 := fun h0 => by
    have := (ck_ok h0 hdat).1.nob (sA, s3) (mem_withF.2 (.inr rfl)) (sAX, s1) (mem_withF.2 (.inl ⟨by unfold awL; simp, by decide +kernel⟩))
    have h2 : belB sA sAX = true := by decide +kernel
    rw [h2] at this; cases this
  rcases h with ⟨err, h1, _⟩ | ⟨fs, h1, h2⟩
  · exact (ld_not ldAw h1).elim
  · have := ld_uniq h1 ldAw
    subst this
    rw [hset] at h2
    rcases h2 with ⟨h3, _⟩ | ⟨_, ⟨z, h4, h5, rfl⟩ | ⟨h4, _⟩⟩
    · exact absurd rfl h3
    · rcases ck_with okAw ascAw (by decide) hpa h4 with h6 | h6
      · exact absurd h6 h5
      · rw [h6]
    · exact absurd h4 hno
theorem aw_getX : gtR q4 dR sAX = (s1, 0) := (std_gtR plAw okAw stdAw (by decide +kernel)).1 s1 (by unfold awL; simp)
theorem aw_getA : (gtR q4 dR sA).2 = 9 := by
  obtain ⟨es, h1, h2, h3⟩ := stdAw
  have hes : OkEs es := okO_tree (o := treeO es) (getP_ok plAw h1) rfl
  have hm : sA ∈ es.map Ent.nm := by rw [h2, nm1]; simp
  obtain ⟨e, he, hen⟩ := List.mem_map.1 hm
  have hent : entN (treeO es).ents (fsN sA) = some e := by
    have : fsN sA = sA := by decide +kernel
    rw [this, ← hen]; exact entN_mem hes he
  have hd : e.dir ≠ deN sA := by
    have h4 : deN sA = false := by decide +kernel
    rw [h4]
    rcases h3 e he with ⟨a, b, c, f⟩ | ⟨a, _⟩
    · rw [hen] at c
      have := (look9_some okAw.nod).2 c
      have h5 : lookF9 awL sA = none := by decide +kernel
      rw [h5] at this; cases this
    · rw [a]; simp
  unfold gtR
  rw [if_pos (by decide +kernel)]
  have hl : (splitS (bl sA)).length = 0 + 1 := by decide +kernel
  rw [hl, getF_dir h1 rfl hent hd]
end Go.Proofs.YtmdhlkkekidknaaGreatDoor

namespace Go.Proofs.YtmdhlkkekidknaaGreatDoor
open Go.RowKit

@[go_sem] theorem guardIt : Tryz.prog.eqGuardType Tryz.prog.depth 38 = false := by kernel_rfl
theorem stoodIt : Tryz.prog.stoodInHeld 38 = false := by kernel_rfl
theorem eqDg1 (a b c d : Int) (w : World) : (Op.equalIn 9999 30 (.agg #[.int .u64 a, .int .u64 b]) (.agg #[.int .u64 c, .int .u64 d])).run Tryz.prog w = .ok (a == c && b == d) w := eqDig0 9997 a b c d w
@[go_sem high] theorem eqIt (a b c d : Int) (s t : ByteArray) (w : World) : (Op.equalIn 10000 38 (.agg #[.int .u64 a, .int .u64 b, .string s]) (.agg #[.int .u64 c, .int .u64 d, .string t])).run Tryz.prog w = .ok ((a == c && b == d) && s.toList == t.toList) w := by
  have hS : Tryz.prog.underlying 38 = some (.struct (Tryz.prog.fieldsOf 38)) := by kernel_rfl
  have a9 := Tryz.isAgg9
  have u9 := Tryz.underlying9
  have aD := Tryz.isAgg30
  have uD := Tryz.underlying30
  have zD := Tryz.sizeOf30
  have hd := eqDg1 a b c d w
  rw [show (10000 : Nat) = 9999 + 1 from rfl, run_equalIn_agg w 9999 38 _ _ hS stoodIt]
  simp only [Program.fieldsOf, Tryz.underlying38]
  go_simp
  by_cases h1 : a = c <;> by_cases h2 : b = d <;> by_cases h3 : s.toList = t.toList <;> simp [h1, h2, h3]
instance : DecidableEq FCh := fun a b => decidable_of_iff (a.path = b.path ∧ a.ho = b.ho ∧ a.hn = b.hn ∧ a.old = b.old ∧ a.new = b.new) ⟨fun h => by cases a; cases b; simp_all, fun h => by subst h; simp⟩
@[go_sem] theorem guardFC : Tryz.prog.eqGuardType Tryz.prog.depth 112 = false := by kernel_rfl
theorem stoodFC : Tryz.prog.stoodInHeld 112 = false := by kernel_rfl
@[go_sem high] theorem eqFC (s s' o o' n n' : ByteArray) (a a' b b' : Bool) (w : World) : (Op.equalIn 10000 112 (.agg #[.string s, .bool a, .bool b, .string o, .string n]) (.agg #[.string s', .bool a', .bool b', .string o', .string n'])).run Tryz.prog w = .ok (s.toList == s'.toList && (a == a' && (b == b' && (o.toList == o'.toList && n.toList == n'.toList)))) w := by
  have hS : Tryz.prog.underlying 112 = some (.struct (Tryz.prog.fieldsOf 112)) := by kernel_rfl
  have a9 := Tryz.isAgg9
  have u9 := Tryz.underlying9
  have a4 := Tryz.isAgg4
  have u4 := Tryz.underlying4
  rw [show (10000 : Nat) = 9999 + 1 from rfl, run_equalIn_agg w 9999 112 _ _ hS stoodFC]
  simp only [Program.fieldsOf, Tryz.underlying112]
  go_simp
  by_cases h1 : s.toList = s'.toList <;> by_cases h2 : a = a' <;> by_cases h3 : b = b' <;> by_cases h4 : o.toList = o'.toList <;> by_cases h5 : n.toList = n'.toList <;> simp [h1, h2, h3, h4, h5]
set_option maxRecDepth 100000 in
set_option maxHeartbeats 1000000 in
theorem same9_any (A0 A1 : Option Addr) (n0 c0 n1 c1 B : Nat) (rs qs : List Fl) (w : World) (h0 : Sl w B 2 A0 n0 (flat flC rs)) (h1 : Sl w B 2 A1 n1 (flat flC qs)) (m0 : n0 ≤ maxLen) :
    Calls Tryz.prog 24 #[.slice A0 n0 c0, .slice A1 n1 c1] w fun e w' => e = .returned (.bool (decide (rs = qs))) ∧ ∃ k, w' = w.drewN k := by
  unfold maxLen at m0
  have HL0 := Lib.hid (h0.len flC_len (by omega))
  have HL1 := Lib.hid (h1.len flC_len (by omega))
  have H0 := Lib.hid h0; have H1 := Lib.hid h1; clear h0 h1
  have hM : Hid (decide (rs = qs) = true ↔ rs = qs) := decide_eq_true_iff
  generalize decide (rs = qs) = mb at *
  by_cases hn : n0 = n1
  · subst hn
    go_enter Tryz.func24, Tryz.ntmps24
    go_wp2
    go_loopw [5] (fun i wr => ∃ k nq : Nat, k ≤ n0 ∧ i = .int .i64 k ∧ wr = w.drewN nq ∧ Hid (rs.take k = qs.take k)) (fun i _ => n0 - (intOf i).toNat)
    case atStart => exact ⟨0, 0, Nat.zero_le _, rfl, rfl, rfl⟩
    case round =>
      obtain ⟨k, nq, hk, rfl, rfl, heq⟩ := hrel
      by_cases hlt : k < n0
      · obtain ⟨b0, o0, r, rfl, _, hr, x0, x1⟩ := H0.out.fl hlt
        obtain ⟨b1, o1, q, rfl, _, hq, y0, y1⟩ := H1.out.fl hlt
        have HR := Lib.hid hr; have HQ := Lib.hid hq; clear hr hq
        have hlz : (k : Int) < (n0 : Int) := by omega
        by_cases e : r = q
        · have t1 : (r.1.toList == q.1.toList && r.2.toList == q.2.toList) = true := by rw [e]; simp
          have HE := Lib.hid e; clear e
          have hnx : Hid (rs.take (k + 1) = qs.take (k + 1)) := by
            show _ = _
            rw [take_snoc HR.out, take_snoc HQ.out, heq.out, HE.out]
          go_wp2
          go_quiet (fail)
          go_wp2
          go_roundw
          case rel => exact ⟨k + 1, _, by omega, by go_num, rfl, hnx⟩
          case measure => simp [intOf]; omega
        · have t1 : (r.1.toList == q.1.toList && r.2.toList == q.2.toList) = false := by
            rw [Bool.eq_false_iff]; intro hh
            simp only [Bool.and_eq_true, beq_iff_eq, ByteArray.toList_eq] at hh
            apply e
            exact Prod.ext (data_inj hh.1) (data_inj hh.2)
          have HE := Lib.hid e; clear e
          go_wp2
          go_quiet (fail)
          go_wp2
          go_ret
          refine ⟨ret_bool ?_, ⟨_, World.drewN_drewN _ _ _⟩⟩
          symm
          rw [Bool.eq_false_iff]
          intro hh
          have := hM.out.1 hh
          subst this
          exact HE.out (Option.some.inj (HR.out.symm.trans HQ.out))
      · have hall : Hid (mb = true) := by
          have := heq.out
          rw [List.take_of_length_le (by rw [HL0.out]; omega), List.take_of_length_le (by rw [HL1.out]; omega)] at this
          exact hM.out.2 this
        have hlz : ¬ (k : Int) < (n0 : Int) := by omega
        go_wp2
        go_ret
        exact ⟨ret_bool hall.out.symm, _, rfl⟩
  · have hne : ((n0 : Int) != (n1 : Int)) = true := by rw [bne_iff_ne]; omega
    go_enter Tryz.func24, Tryz.ntmps24
    go_wp2
    go_ret
    refine ⟨ret_bool ?_, 0, rfl⟩
    symm
    rw [Bool.eq_false_iff]
    intro hh
    have := hM.out.1 hh
    subst this
    exact hn (HL0.out.symm.trans HL1.out)

set_option maxRecDepth 100000 in
set_option maxHeartbeats 1000000 in
theorem same8_any (A0 A1 : Option Addr) (n0 c0 n1 c1 B : Nat) (rs qs : List Itm) (w : World) (h0 : Sl w B 3 A0 n0 (flat itC rs)) (h1 : Sl w B 3 A1 n1 (flat itC qs)) (m0 : n0 ≤ maxLen) :
    Calls Tryz.prog 47 #[.slice A0 n0 c0, .slice A1 n1 c1] w fun e w' => e = .returned (.bool (decide (rs = qs))) ∧ ∃ k, w' = w.drewN k := by
  unfold maxLen at m0
  have HL0 := Lib.hid (h0.len itC_len (by omega))
  have HL1 := Lib.hid (h1.len itC_len (by omega))
  have H0 := Lib.hid h0; have H1 := Lib.hid h1; clear h0 h1
  have hM : Hid (decide (rs = qs) = true ↔ rs = qs) := decide_eq_true_iff
  generalize decide (rs = qs) = mb at *
  by_cases hn : n0 = n1
  · subst hn
    go_enter Tryz.func47, Tryz.ntmps47
    go_wp2
    go_loopw [5] (fun i wr => ∃ k nq : Nat, k ≤ n0 ∧ i = .int .i64 k ∧ wr = w.drewN nq ∧ Hid (rs.take k = qs.take k)) (fun i _ => n0 - (intOf i).toNat)
    case atStart => exact ⟨0, 0, Nat.zero_le _, rfl, rfl, rfl⟩
    case round =>
      obtain ⟨k, nq, hk, rfl, rfl, heq⟩ := hrel
      by_cases hlt : k < n0
      · obtain ⟨b0, o0, r, rfl, _, hr, x0, x1, x2⟩ := H0.out.it hlt
        obtain ⟨b1, o1, q, rfl, _, hq, y0, y1, y2⟩ := H1.out.it hlt
        have HR := Lib.hid hr; have HQ := Lib.hid hq; clear hr hq
        have hlz : (k : Int) < (n0 : Int) := by omega
        by_cases e : r = q
        · have t1 : ((r.1.1 == q.1.1 && r.1.2 == q.1.2) && r.2.toList == q.2.toList) = true := by rw [e]; simp
          have HE := Lib.hid e; clear e
          have hnx : Hid (rs.take (k + 1) = qs.take (k + 1)) := by
            show _ = _
            rw [take_snoc HR.out, take_snoc HQ.out, heq.out, HE.out]
          go_wp2
          go_quiet (fail)
          go_wp2
          go_roundw
          case rel => exact ⟨k + 1, _, by omega, by go_num, rfl, hnx⟩
          case measure => simp [intOf]; omega
        · have t1 : ((r.1.1 == q.1.1 && r.1.2 == q.1.2) && r.2.toList == q.2.toList) = false := by
            rw [Bool.eq_false_iff]; intro hh
            simp only [Bool.and_eq_true, beq_iff_eq, ByteArray.toList_eq] at hh
            apply e
            exact Prod.ext (Prod.ext hh.1.1 hh.1.2) (data_inj hh.2)
          have HE := Lib.hid e; clear e
          go_wp2
          go_quiet (fail)
          go_wp2
          go_ret
          refine ⟨ret_bool ?_, ⟨_, World.drewN_drewN _ _ _⟩⟩
          symm
          rw [Bool.eq_false_iff]
          intro hh
          have := hM.out.1 hh
          subst this
          exact HE.out (Option.some.inj (HR.out.symm.trans HQ.out))
      · have hall : Hid (mb = true) := by
          have := heq.out
          rw [List.take_of_length_le (by rw [HL0.out]; omega), List.take_of_length_le (by rw [HL1.out]; omega)] at this
          exact hM.out.2 this
        have hlz : ¬ (k : Int) < (n0 : Int) := by omega
        go_wp2
        go_ret
        exact ⟨ret_bool hall.out.symm, _, rfl⟩
  · have hne : ((n0 : Int) != (n1 : Int)) = true := by rw [bne_iff_ne]; omega
    go_enter Tryz.func47, Tryz.ntmps47
    go_wp2
    go_ret
    refine ⟨ret_bool ?_, 0, rfl⟩
    symm
    rw [Bool.eq_false_iff]
    intro hh
    have := hM.out.1 hh
    subst this
    exact hn (HL0.out.symm.trans HL1.out)

end Go.Proofs.YtmdhlkkekidknaaGreatDoor

namespace Go.Proofs.YtmdhlkkekidknaaGreatDoor
open Go.RowKit

theorem res_fl {fn : Func} {c : Tmp} (h : fn.results = #[.cell c 68]) {w : World} {a : Array Value} {b : Nat} {x0 x1 : Value} (ha : a[c]?.getD undef = .pointer (some ⟨b, 0, none⟩)) (hk : Bk w b 68 #[x0, x1]) :
    (results fn a).run Tryz.prog w = .ok (.agg #[x0, x1]) w := by
  obtain ⟨h0, h1, _⟩ := hk.two
  simp [results, h, ha, go_sem, h0, h1]
set_option maxRecDepth 100000 in
set_option maxHeartbeats 1000000 in
theorem lfile_any (a b : ByteArray) (w : World) : Calls Tryz.prog 44 #[.string a, .string b] w fun e w' => e = .returned (.agg #[.string a, .string b]) ∧ Below w.heap.size w w' := by
  have HB : Hid (Below w.heap.size w (w.alloc (.cells #[.string a, .string b] 68))) := (Below.refl _ w).alloc (Nat.le_refl _) _
  have HK : Hid (Bk (w.alloc (.cells #[.string a, .string b] 68)) w.heap.size 68 #[.string a, .string b]) := Bk.new w _ _
  go_enter Tryz.func44, Tryz.ntmps44
  go_wp2_with fail
  refine bodyPost_ret (res_fl Tryz.results44 rfl HK.out) rfl ⟨rfl, HB.out⟩
def LawE (w : World) (e : Ending) (w' : World) : Prop := e = .returned (.bool true) ∧ Below w.heap.size w w'
set_option maxRecDepth 100000 in
set_option maxHeartbeats 8000000 in
theorem awake_any (w : World) : Calls Tryz.prog 14 #[] w (LawE w) := by
  have HF1 := fun W => lfile_any sAX s1 W
  have HF2 := fun W => lfile_any sB s2 W
  unfold sAX s1 at HF1
  unfold sB s2 at HF2
  unfold LawE
  go_enter Tryz.func14, Tryz.ntmps14
  go_wp2_with fail
  refine (HF1 _).mono ?_
  rintro e w1 ⟨rfl, hb1⟩
  have HB1 := Lib.hid hb1
  clear hb1
  go_wp2_with fail
  refine (HF2 _).mono ?_
  rintro e w2 ⟨rfl, hb⟩
  have HB2 : Hid (Below w.heap.size w w2) := HB1.out.trans (hb.mono HB1.out.size)
  clear hb HB1 HF1 HF2
  obtain ⟨W3, hW3⟩ : ∃ W3, w2.alloc (.cells #[.string ⟨#[97, 47, 120]⟩, .string ⟨#[49]⟩, .string ⟨#[98]⟩, .string ⟨#[50]⟩] 68) = W3 := ⟨_, rfl⟩
  have HB3 : Hid (Below w.heap.size w W3) := by rw [← hW3]; exact HB2.out.alloc HB2.out.size _
  have HS3 : Hid (Sl W3 W3.heap.size 2 (some ⟨w2.heap.size, 0, none⟩) 2 (flat flC awL)) := by
    rw [← hW3]; exact Sl.of_bk (n := 2) (size := 2) (Bk.new w2 _ _) rfl
  have HST := Lib.hid (tstore_any none 0 0 W3.heap.size [] (some ⟨w2.heap.size, 0, none⟩) 2 2 awL W3 ⟨rfl, fun h => absurd h (Nat.lt_irrefl 0)⟩ HS3.out (Nat.le_refl _) (Nat.le_refl _) (Nat.zero_le _) (Nat.zero_le _) (by omega) PlOk.nil (fun f hf => ⟨Nat.le_trans (path_len (okAw.path f hf)) (by omega), okAw.data f hf⟩))
  have HW3 := Lib.hid hW3
  clear hW3
  go_wp2_with fail
  rw [HW3.out]
  refine HST.out.mono ?_
  rintro e w4 hst
  obtain ⟨A4, c4, rfl, hs4, hc4, hm4, hb⟩ := aw_store hst
  have HS4 := Lib.hid hs4
  have HB4 : Hid (Below w.heap.size w w4) := HB3.out.trans (hb.mono HB3.out.size)
  have HL4 := Lib.hid (sl_on HS3.out hb)
  clear hst hs4 hb HST HB3 HS3
  obtain ⟨⟨d1, d2⟩, hd⟩ : ∃ d, dR = d := ⟨_, rfl⟩
  have HD := Lib.hid hd
  rw [hd]
  simp only [digV]
  clear hd
  obtain ⟨W5, hW5⟩ : ∃ W5, w4.alloc (.cells #[.int .u64 d1, .int .u64 d2] 30) = W5 := ⟨_, rfl⟩
  have hb5 : Below w4.heap.size w4 W5 := by rw [← hW5]; exact (Below.refl _ w4).alloc (Nat.le_refl _) _
  have HB5 : Hid (Below w.heap.size w W5) := HB4.out.trans (hb5.mono HB4.out.size)
  have HK5 : Hid (Bk W5 w4.heap.size 30 #[.int .u64 d1, .int .u64 d2]) := by rw [← hW5]; exact Bk.new w4 _ _
  have HP5 := Lib.hid (sl_on HS4.out hb5)
  have HL5 := Lib.hid (sl_on HL4.out hb5)
  have hsz : ∀ i ∈ q4, i.2.size ≤ 60000 := by decide +kernel
  have HSZ := Lib.hid hsz
  have HC := Lib.hid (tload_any A4 4 c4 W5.heap.size q4 (d1, d2) W5 HP5.out (Nat.le_refl _) (by omega) plAw)
  simp only [digV] at HC
  have HW5 := Lib.hid hW5
  obtain ⟨x0, x1, _, _⟩ := HK5.out.two
  rw [← hW5] at x0 x1
  clear hW5 hb5 hsz HS4 HL4 HB4
  go_wp2_with fail
  rw [HW5.out]
  refine HC.out.mono ?_
  rintro e w6 hld
  obtain ⟨A6, c6, rfl, hs6, hb⟩ := aw_load (by rw [HD.out]; exact hld)
  have HS6 := Lib.hid hs6
  have HB6 : Hid (Below w.heap.size w w6) := HB5.out.trans (hb.mono HB5.out.size)
  have HK6 := Lib.hid (HK5.out.below hb HK5.out.lt)
  have HP6 := Lib.hid (sl_on HP5.out hb)
  have HL6 := Lib.hid (sl_on HL5.out hb)
  clear hld hs6 hb HC HK5 HP5 HL5 HB5 x0 x1 HW5
  obtain ⟨x0, x1, _, _⟩ := HK6.out.two
  have HC := Lib.hid (tset_any A4 4 c4 w6.heap.size q4 (d1, d2) sA s3 w6 HP6.out (Nat.le_refl _) hc4 hm4 (by omega) plAw HSZ.out (by decide) (by decide))
  unfold sA s3 at HC
  simp only [digV] at HC
  go_wp2_with fail
  refine HC.out.mono ?_
  rintro e w7 hst
  obtain ⟨rfl, hb⟩ := aw_set (w := w6) (e := e) (w' := w7) (by rw [HD.out]; exact hst)
  have HB7 : Hid (Below w.heap.size w w7) := HB6.out.trans (hb.mono HB6.out.size)
  have HK7 := Lib.hid (HK6.out.below hb HK6.out.lt)
  have HP7 := Lib.hid (sl_on HP6.out hb)
  have HL7 := Lib.hid (sl_on HL6.out hb)
  have HS7 := Lib.hid (sl_on HS6.out hb)
  clear hst hb HC HK6 HP6 HL6 HB6 HS6 x0 x1
  simp only [digV, zD]
  obtain ⟨x0, x1, _, _⟩ := HK7.out.two
  obtain ⟨W8, hW8⟩ : ∃ W8, w7.alloc (.cells #[.int .u64 0, .int .u64 0] 30) = W8 := ⟨_, rfl⟩
  have hb8 : Below w7.heap.size w7 W8 := by rw [← hW8]; exact (Below.refl _ w7).alloc (Nat.le_refl _) _
  have HB8 : Hid (Below w.heap.size w W8) := HB7.out.trans (hb8.mono HB7.out.size)
  have HK8 := Lib.hid (HK7.out.below hb8 HK7.out.lt)
  have HP8 := Lib.hid (sl_on HP7.out hb8)
  have HL8 := Lib.hid (sl_on HL7.out hb8)
  have HS8 := Lib.hid (sl_on HS7.out hb8)
  obtain ⟨y0, y1, _, _⟩ := HK8.out.two
  rw [← hW8] at y0 y1
  have HC := Lib.hid (tget_any A4 4 c4 W8.heap.size q4 (d1, d2) sA W8 HP8.out (Nat.le_refl _) (by omega) plAw (by decide))
  unfold TgE sA at HC
  obtain ⟨⟨g1, g2⟩, hg⟩ : ∃ g, gtR q4 (d1, d2) ⟨#[97]⟩ = g := ⟨_, rfl⟩
  have hg9 : g2 = 9 := by
    have := aw_getA
    rw [HD.out] at this
    unfold sA at this
    rw [hg] at this; exact this
  subst hg9
  rw [hg] at HC
  simp only [digV] at HC
  have HW8 := Lib.hid hW8
  clear hW8 hb8 hg HK7 HP7 HL7 HS7 HB7
  go_wp2_with fail
  rw [HW8.out]
  refine HC.out.mono ?_
  rintro e w9 ⟨rfl, hb⟩
  have HB9 : Hid (Below w.heap.size w w9) := HB8.out.trans (hb.mono HB8.out.size)
  have HK9 := Lib.hid (HK8.out.below hb HK8.out.lt)
  have HP9 := Lib.hid (sl_on HP8.out hb)
  have HL9 := Lib.hid (sl_on HL8.out hb)
  have HS9 := Lib.hid (sl_on HS8.out hb)
  clear hb HC HK8 HP8 HL8 HS8 HB8 x0 x1 y0 y1 HW8
  obtain ⟨x0, x1, _, _⟩ := HK9.out.two
  have HC := Lib.hid (tget_any A4 4 c4 w9.heap.size q4 (d1, d2) sAX w9 HP9.out (Nat.le_refl _) (by omega) plAw (by decide))
  have hgx := aw_getX
  rw [HD.out] at hgx
  unfold TgE at HC
  rw [hgx] at HC
  unfold sAX s1 at HC
  simp only [digV] at HC
  clear hgx
  go_wp2_with fail
  refine HC.out.mono ?_
  rintro e w10 ⟨rfl, hb⟩
  have HB10 : Hid (Below w.heap.size w w10) := HB9.out.trans (hb.mono HB9.out.size)
  have HL10 := Lib.hid (sl_on HL9.out hb)
  have HS10 := Lib.hid (sl_on HS9.out hb)
  have HC := Lib.hid (same9_any (some ⟨w2.heap.size, 0, none⟩) A6 2 2 2 c6 w10.heap.size awL awL w10 HL10.out HS10.out (by unfold maxLen; omega))
  have hdec : decide (awL = awL) = true := by simp
  rw [hdec] at HC
  clear hb hdec HK9 HP9 HL9 HS9 HB9 x0 x1
  go_wp2_with fail
  refine HC.out.mono ?_
  rintro e w11 ⟨rfl, k, rfl⟩
  have HB11 := Lib.hid (below_drewN HB10.out k)
  clear HC HB10 HL10 HS10
  go_wp2_with fail
  go_ret
  exact ⟨rfl, HB11.out⟩
end Go.Proofs.YtmdhlkkekidknaaGreatDoor

namespace Go.Proofs.YtmdhlkkekidknaaGreatDoor
open Go.RowKit Go.Maps

def Gr9End (n : Nat) (fs : List Fl) (w : World) (e : Ending) (w' : World) : Prop := ∃ r : Bool, e = .returned (.bool r) ∧ (r = false → n ≤ 10 ∧ ∀ f ∈ fs, f.1.size ≤ 120 ∧ f.2.size ≤ 200) ∧ w = w'
set_option maxRecDepth 100000 in
set_option maxHeartbeats 2000000 in
theorem great9_any (A : Option Addr) (n c B : Nat) (fs : List Fl) (w : World) (h0 : Sl w B 2 A n (flat flC fs)) (hn : n ≤ maxLen) (hs : ∀ f ∈ fs, f.1.size ≤ maxLen ∧ f.2.size ≤ maxLen) :
    Calls Tryz.prog 13 #[.slice A n c] w (Gr9End n fs w) := by
  unfold maxLen at hn
  have HL0 := Lib.hid (h0.len flC_len (by omega))
  have H0 := Lib.hid h0; clear h0
  have HS := Lib.hid hs; clear hs
  go_enter Tryz.func13, Tryz.ntmps13
  by_cases hbig : (10 : Int) < (n : Int)
  · go_wp2
    go_ret
    exact ⟨true, rfl, (fun e => by cases e), rfl⟩
  go_wp2
  go_loopw [3] (fun i wr => ∃ k : Nat, k ≤ n ∧ i = .int .i64 k ∧ wr = w ∧ Hid (∀ f ∈ fs.take k, f.1.size ≤ 120 ∧ f.2.size ≤ 200)) (fun i _ => n - (intOf i).toNat)
  case atStart => exact ⟨0, Nat.zero_le _, rfl, rfl, fun y hy => by simp at hy⟩
  case round =>
    obtain ⟨k, hk, rfl, rfl, hN⟩ := hrel
    by_cases hlt : k < n
    · obtain ⟨b, off, f, rfl, hb, hf, y0, y1⟩ := H0.out.fl hlt
      have hkz : (k : Int) < (n : Int) := by omega
      have hfs := HS.out f (List.mem_of_getElem? hf)
      have hf1 : f.1.size ≤ 9223372036854775807 := by have := hfs.1; unfold maxLen at this; exact this
      have hf2 : f.2.size ≤ 9223372036854775807 := by have := hfs.2; unfold maxLen at this; exact this
      have HF := Lib.hid hf; clear hf hfs
      by_cases c1 : (120 : Int) < (f.1.size : Int)
      · go_wp2
        go_ret
        exact ⟨true, rfl, (fun e => by cases e), rfl⟩
      by_cases c2 : (200 : Int) < (f.2.size : Int)
      · go_wp2
        go_ret
        exact ⟨true, rfl, (fun e => by cases e), rfl⟩
      have HN : Hid (∀ f ∈ fs.take (k + 1), f.1.size ≤ 120 ∧ f.2.size ≤ 200) := fun y hy => by
        rw [take_snoc HF.out] at hy
        rcases List.mem_append.1 hy with hy | hy
        · exact hN.out y hy
        · rw [List.mem_singleton.1 hy]; exact ⟨by omega, by omega⟩
      go_wp2
      go_roundw
      case rel => exact ⟨k + 1, hlt, by go_num, trivial, HN.out⟩
      case measure => simp [intOf]; omega
    · have hkz : ¬ (k : Int) < (n : Int) := by omega
      have HN : Hid (∀ f ∈ fs, f.1.size ≤ 120 ∧ f.2.size ≤ 200) := by
        have := hN.out
        rwa [List.take_of_length_le (by rw [HL0.out]; omega)] at this
      go_wp2
      go_ret
      exact ⟨false, rfl, (fun _ => ⟨by omega, HN.out⟩), rfl⟩
end Go.Proofs.YtmdhlkkekidknaaGreatDoor

namespace Go.Proofs.YtmdhlkkekidknaaGreatDoor
open Go.RowKit Go.Maps

end Go.Proofs.YtmdhlkkekidknaaGreatDoor

namespace Go.Proofs.YtmdhlkkekidknaaGreatDoor
open Go.RowKit

end Go.Proofs.YtmdhlkkekidknaaGreatDoor

namespace Go.Proofs.YtmdhlkkekidknaaGreatDoor
open Go.RowKit

def Gr8End (n : Nat) (p : List Itm) (w : World) (e : Ending) (w' : World) : Prop := ∃ r : Bool, e = .returned (.bool r) ∧ (r = false → n ≤ 40 ∧ ∀ i ∈ p, i.2.size ≤ 500) ∧ w = w'
set_option maxRecDepth 100000 in
set_option maxHeartbeats 2000000 in
theorem great8_any (A : Option Addr) (n c B : Nat) (p : List Itm) (w : World) (h0 : Sl w B 3 A n (flat itC p)) (hn : n ≤ maxLen) (hs : ∀ i ∈ p, i.2.size ≤ maxLen) :
    Calls Tryz.prog 42 #[.slice A n c] w (Gr8End n p w) := by
  unfold maxLen at hn
  have HL0 := Lib.hid (h0.len itC_len (by omega))
  have H0 := Lib.hid h0; clear h0
  have HS := Lib.hid hs; clear hs
  go_enter Tryz.func42, Tryz.ntmps42
  by_cases hbig : (40 : Int) < (n : Int)
  · go_wp2
    go_ret
    exact ⟨true, rfl, (fun e => by cases e), rfl⟩
  go_wp2
  go_loopw [3] (fun i wr => ∃ k : Nat, k ≤ n ∧ i = .int .i64 k ∧ wr = w ∧ Hid (∀ f ∈ p.take k, f.2.size ≤ 500)) (fun i _ => n - (intOf i).toNat)
  case atStart => exact ⟨0, Nat.zero_le _, rfl, rfl, fun y hy => by simp at hy⟩
  case round =>
    obtain ⟨k, hk, rfl, rfl, hN⟩ := hrel
    by_cases hlt : k < n
    · obtain ⟨b, off, f, rfl, hb, hf, y0, y1, y2⟩ := H0.out.it hlt
      have hkz : (k : Int) < (n : Int) := by omega
      have hf2 : f.2.size ≤ 9223372036854775807 := by have := HS.out f (List.mem_of_getElem? hf); unfold maxLen at this; exact this
      have HF := Lib.hid hf; clear hf
      by_cases c2 : (500 : Int) < (f.2.size : Int)
      · go_wp2
        go_ret
        exact ⟨true, rfl, (fun e => by cases e), rfl⟩
      have HN : Hid (∀ f ∈ p.take (k + 1), f.2.size ≤ 500) := fun y hy => by
        rw [take_snoc HF.out] at hy
        rcases List.mem_append.1 hy with hy | hy
        · exact hN.out y hy
        · rw [List.mem_singleton.1 hy]; omega
      go_wp2
      go_roundw
      case rel => exact ⟨k + 1, hlt, by go_num, trivial, HN.out⟩
      case measure => simp [intOf]; omega
    · have hkz : ¬ (k : Int) < (n : Int) := by omega
      have HN : Hid (∀ f ∈ p, f.2.size ≤ 500) := by
        have := hN.out
        rwa [List.take_of_length_le (by rw [HL0.out]; omega)] at this
      go_wp2
      go_ret
      exact ⟨false, rfl, (fun _ => ⟨by omega, HN.out⟩), rfl⟩
theorem plok_snoc {p : List Itm} {k : Nat} {x : Itm} (h : PlOk (p.take k)) (hx : p[k]? = some x) (he : ∃ o, OkO o ∧ x.2 = ofL (encO o)) (hd : x.1 = ofB (toL x.2)) (hp : ∀ y, 0 < k → p[k - 1]? = some y → ltD y.1 x.1) : PlOk (p.take (k + 1)) := by
  rw [take_snoc hx]
  refine ⟨fun i hi => ?_, fun i hi => ?_, ?_⟩
  · rcases List.mem_append.1 hi with hi | hi
    · exact h.enc i hi
    · rw [List.mem_singleton.1 hi]; exact he
  · rcases List.mem_append.1 hi with hi | hi
    · exact h.dg i hi
    · rw [List.mem_singleton.1 hi]; exact hd
  · rw [List.pairwise_append]
    refine ⟨h.asc, List.pairwise_singleton _ _, fun a ha b hb => ?_⟩
    rw [List.mem_singleton.1 hb]
    have hk0 : 0 < k := by
      rcases Nat.eq_zero_or_pos k with h0 | h0
      · subst h0; simp at ha
      · exact h0
    have hkl := (List.getElem?_eq_some_iff.1 hx).1
    have hy : p[k - 1]? = some (p[k - 1]'(by omega)) := List.getElem?_eq_getElem _
    have hlast := hp _ hk0 hy
    obtain ⟨j, hj, e⟩ := List.getElem_of_mem ha
    rw [List.length_take] at hj
    rw [List.getElem_take] at e
    rcases Nat.lt_or_ge j (k - 1) with h1 | h1
    · have hasc := h.asc
      rw [List.pairwise_iff_getElem] at hasc
      have h2 := hasc j (k - 1) (by rw [List.length_take]; omega) (by rw [List.length_take]; omega) h1
      rw [List.getElem_take, List.getElem_take, e] at h2
      exact ltD_trans h2 hlast
    · have : j = k - 1 := by omega
      subst this
      rw [← e]; exact hlast
def Ck8End (p : List Itm) (w : World) (e : Ending) (w' : World) : Prop := ∃ err : Int, e = .returned (.int .i64 err) ∧ (err = 0 → PlOk p) ∧ Below w.heap.size w w'
set_option maxRecDepth 100000 in
set_option maxHeartbeats 8000000 in
theorem check8_any (A : Option Addr) (n c B : Nat) (p : List Itm) (w : World) (h0 : Sl w B 3 A n (flat itC p)) (hB : B ≤ w.heap.size) (hn : n ≤ 1000) (hs : ∀ i ∈ p, i.2.size ≤ 1000) :
    Calls Tryz.prog 43 #[.slice A n c] w (Ck8End p w) := by
  have HL0 := Lib.hid (h0.len itC_len (by omega))
  have H0 := Lib.hid h0; clear h0
  have HS := Lib.hid hs; clear hs
  go_enter Tryz.func43, Tryz.ntmps43
  go_wp2_with fail
  go_loopw [3] (fun i wr => ∃ k : Nat, k ≤ n ∧ i = .int .i64 (k : Int) ∧ Hid (PlOk (p.take k)) ∧ Hid (Below w.heap.size w wr)) (fun i _ => n - (intOf i).toNat)
  case atStart => exact ⟨0, Nat.zero_le _, rfl, by rw [List.take_zero]; exact PlOk.nil, Below.refl _ _⟩
  case round =>
    obtain ⟨k, hk, rfl, hN, hBel⟩ := hrel
    by_cases hlt : k < n
    · have hlz : (k : Int) < (n : Int) := by omega
      obtain ⟨b, off, x, rfl, hb, hx, y0, y1, y2⟩ := (H0.out.below hBel.out hB).it hlt
      have HX := Lib.hid hx
      have hxs := HS.out x (List.mem_of_getElem? hx)
      clear hx
      obtain ⟨⟨x1, x2⟩, xs⟩ := x
      simp only at y0 y1 y2 hxs
      have HD := Lib.hid (decode7_any xs wr (by omega))
      unfold DecE at HD
      have zb : b < wr.heap.size := by have := hBel.out.size; omega
      go_wp2_with fail
      refine HD.out.mono ?_
      rintro e w2 ⟨hq, hb2⟩
      have HB2 : Hid (Below w.heap.size w w2) := hBel.out.trans (hb2.mono hBel.out.size)
      obtain ⟨q0, q1, q2⟩ : w2.cell? ⟨b, off + k * 3, none⟩ = some (.int .u64 x1) ∧ w2.cell? ⟨b, off + k * 3 + 1, none⟩ = some (.int .u64 x2) ∧ w2.cell? ⟨b, off + k * 3 + 2, none⟩ = some (.string xs) := ⟨(hb2.cell (p := ⟨b, off + k * 3, none⟩) zb).trans y0, (hb2.cell (p := ⟨b, off + k * 3 + 1, none⟩) zb).trans y1, (hb2.cell (p := ⟨b, off + k * 3 + 2, none⟩) zb).trans y2⟩
      have zb2 : b < w2.heap.size := by have := hb2.size; omega
      clear hb2 HD y0 y1 y2 hBel
      rcases hq with ⟨o, sl, ho, he, rfl, _⟩ | ⟨_, rfl⟩
      case inr =>
        clear q0 q1 q2
        go_wp2_with fail
        go_ret
        exact ⟨13, rfl, (fun h => by cases h), HB2.out.alloc HB2.out.size _⟩
      case inl =>
        have HE : Hid (∃ o, OkO o ∧ xs = ofL (encO o)) := ⟨o, ho, he⟩
        simp only [obV, obC]
        clear ho he
        obtain ⟨W3, hW3⟩ : ∃ W3, w2.alloc (.cells #[.int .i64 o.kind, .string o.data, .slice sl.eA sl.en sl.ec, .int .u64 o.tree.1, .int .u64 o.tree.2, .slice sl.pA sl.pn sl.pc, .string o.auth, .int .i64 o.time, .string o.msg] 82) = W3 := ⟨_, rfl⟩
        have hb3 : Below w2.heap.size w2 W3 := by rw [← hW3]; exact (Below.refl _ w2).alloc (Nat.le_refl _) _
        have HB3 : Hid (Below w.heap.size w W3) := HB2.out.trans (hb3.mono HB2.out.size)
        obtain ⟨k0, k1, k2⟩ : W3.cell? ⟨b, off + k * 3, none⟩ = some (.int .u64 x1) ∧ W3.cell? ⟨b, off + k * 3 + 1, none⟩ = some (.int .u64 x2) ∧ W3.cell? ⟨b, off + k * 3 + 2, none⟩ = some (.string xs) := ⟨(hb3.cell (p := ⟨b, off + k * 3, none⟩) zb2).trans q0, (hb3.cell (p := ⟨b, off + k * 3 + 1, none⟩) zb2).trans q1, (hb3.cell (p := ⟨b, off + k * 3 + 2, none⟩) zb2).trans q2⟩
        have zb3 : b < W3.heap.size := by have := hb3.size; omega
        have HOF := Lib.hid (fun W => rof_any xs W (by unfold maxLen; omega))
        unfold OfEnd at HOF
        obtain ⟨⟨g1, g2⟩, hg⟩ : ∃ g, ofB (toL xs) = g := ⟨_, rfl⟩
        rw [hg] at HOF
        have HG := Lib.hid hg
        simp only [digV] at HOF
        clear hg hb3
        by_cases hgx : g1 = x1 ∧ g2 = x2
        case neg =>
          have hgf : (g1 == x1 && g2 == x2) = false := by
            rw [Bool.eq_false_iff]; intro h
            rw [Bool.and_eq_true, beq_iff_eq, beq_iff_eq] at h
            exact hgx h
          clear hgx
          go_wp2_with fail
          clear hW3 q0 q1 q2
          go_region_held3 (fun w' => w'.cell? ⟨b, off + k * 3, none⟩ = some (.int .u64 x1) ∧ w'.cell? ⟨b, off + k * 3 + 1, none⟩ = some (.int .u64 x2) ∧ w'.cell? ⟨b, off + k * 3 + 2, none⟩ = some (.string xs))
            (first | exact ⟨k0, k1, k2⟩ | exact ⟨m0.out, m1.out, m2.out⟩)
            (first
              | (go_at_call 20; refine (HOF.out _).mono ?_; rintro e w7 ⟨rfl, hb2⟩
                 have m0 := Lib.hid ((hb2.cell (p := ⟨b, off + k * 3, none⟩) (by show b < _; simp; omega)).trans k0); have m1 := Lib.hid ((hb2.cell (p := ⟨b, off + k * 3 + 1, none⟩) (by show b < _; simp; omega)).trans k1); have m2 := Lib.hid ((hb2.cell (p := ⟨b, off + k * 3 + 2, none⟩) (by show b < _; simp; omega)).trans k2)
                 have hR : Hid (Below W3.heap.size W3 w7) := (Below.refl _ W3).drew.trans hb2
                 clear hb2))
          have HB8 : Hid (Below w.heap.size w w7) := HB3.out.trans (hR.out.mono HB3.out.size)
          have p0 := m0.out; have p1 := m1.out; have p2 := m2.out
          have zb7 : b < w7.heap.size := by have := hR.out.size; omega
          clear HB3 HB2 hR k0 k1 k2
          clear p0 p1 p2 m0 m1 m2
          go_wp2_with fail
          go_ret
          exact ⟨15, rfl, (fun h => by cases h), HB8.out⟩
        case pos =>
          obtain ⟨rfl, rfl⟩ := hgx
          have hgf : (g1 == g1 && g2 == g2) = true := by simp
          go_wp2_with fail
          clear hW3 q0 q1 q2
          go_region_held3 (fun w' => w'.cell? ⟨b, off + k * 3, none⟩ = some (.int .u64 g1) ∧ w'.cell? ⟨b, off + k * 3 + 1, none⟩ = some (.int .u64 g2) ∧ w'.cell? ⟨b, off + k * 3 + 2, none⟩ = some (.string xs))
            (first | exact ⟨k0, k1, k2⟩ | exact ⟨m0.out, m1.out, m2.out⟩)
            (first
              | (go_at_call 20; refine (HOF.out _).mono ?_; rintro e w7 ⟨rfl, hb2⟩
                 have m0 := Lib.hid ((hb2.cell (p := ⟨b, off + k * 3, none⟩) (by show b < _; simp; omega)).trans k0); have m1 := Lib.hid ((hb2.cell (p := ⟨b, off + k * 3 + 1, none⟩) (by show b < _; simp; omega)).trans k1); have m2 := Lib.hid ((hb2.cell (p := ⟨b, off + k * 3 + 2, none⟩) (by show b < _; simp; omega)).trans k2)
                 have hR : Hid (Below W3.heap.size W3 w7) := (Below.refl _ W3).drew.trans hb2
                 clear hb2))
          have HB8 : Hid (Below w.heap.size w w7) := HB3.out.trans (hR.out.mono HB3.out.size)
          have p0 := m0.out; have p1 := m1.out; have p2 := m2.out
          have zb7 : b < w7.heap.size := by have := hR.out.size; omega
          clear HB3 HB2 hR k0 k1 k2
          clear m0 m1 m2
          have HG2 : Hid ((g1, g2) = ofB (toL xs)) := HG.out.symm
          by_cases hk0 : k = 0
          · subst hk0
            have HP1 : Hid (PlOk (p.take (0 + 1))) := plok_snoc hN.out HX.out HE.out HG2.out (fun y h => absurd h (Nat.lt_irrefl 0))
            clear p0 p1 p2
            go_wp2_with fail
            go_region
            go_wp2_with fail
            go_roundw
            case rel => exact ⟨0 + 1, hlt, by go_num, HP1.out, HB8.out.drew⟩
            case measure => simp [intOf]; omega
          · obtain ⟨j, rfl⟩ : ∃ j, k = j + 1 := ⟨k - 1, by omega⟩
            obtain ⟨b3, off3, y, hA3, hb3, hy, z0, z1, z2⟩ := (H0.out.below HB8.out hB).it (k := j) (by omega)
            injection hA3 with hA3
            injection hA3 with hA3 hA4
            subst hA3; subst hA4
            have HY := Lib.hid hy
            clear hy
            obtain ⟨⟨y1', y2'⟩, ys⟩ := y
            simp only at z0 z1 z2
            have hj1 : IntKind.i64.wrap (j : Int) = (j : Int) := by rw [IntKind.wrap_i64]; omega
            have hjn : j < n := by omega
            have hj2 : (j : Int) + 1 < (n : Int) := by omega
            have hj3 : (0 : Int) ≤ (j : Int) + 1 := by omega
            have hj4 : ((j : Int) + 1).toNat = j + 1 := by omega
            have HCM := Lib.hid (fun W => dcmp2_any (y1', y2') (g1, g2) W)
            unfold CmE at HCM
            simp only [digV] at HCM
            obtain ⟨cz, hcz⟩ : ∃ cz, cmpD (y1', y2') (g1, g2) = cz := ⟨_, rfl⟩
            rw [hcz] at HCM
            have HCZ := Lib.hid hcz
            clear hcz
            by_cases hcz : cz < 0
            case neg =>
              have hc2 : (0 : Int) ≤ cz := by omega
              clear hcz
              go_wp2_with fail
              go_region_held3 (fun w' => w'.cell? ⟨b, off + j * 3, none⟩ = some (.int .u64 y1') ∧ w'.cell? ⟨b, off + j * 3 + 1, none⟩ = some (.int .u64 y2') ∧ w'.cell? ⟨b, off + (j + 1) * 3, none⟩ = some (.int .u64 g1) ∧ w'.cell? ⟨b, off + (j + 1) * 3 + 1, none⟩ = some (.int .u64 g2))
                (first | exact ⟨z0, z1, p0, p1⟩ | exact ⟨n0.out, n1.out, n2.out, n3.out⟩)
                (first
                  | (go_at_call 86; refine (HCM.out _).mono ?_; rintro e w8 ⟨rfl, hb8⟩
                     have n0 := Lib.hid ((hb8.cell (p := ⟨b, off + j * 3, none⟩) (by show b < _; simp; omega)).trans z0); have n1 := Lib.hid ((hb8.cell (p := ⟨b, off + j * 3 + 1, none⟩) (by show b < _; simp; omega)).trans z1); have n2 := Lib.hid ((hb8.cell (p := ⟨b, off + (j + 1) * 3, none⟩) (by show b < _; simp; omega)).trans p0); have n3 := Lib.hid ((hb8.cell (p := ⟨b, off + (j + 1) * 3 + 1, none⟩) (by show b < _; simp; omega)).trans p1)
                     have hR8 : Hid (Below w7.heap.size w7 w8) := (Below.refl _ w7).drew.trans hb8
                     clear hb8))
              have HB9 : Hid (Below w.heap.size w w8) := HB8.out.trans (hR8.out.mono HB8.out.size)
              clear n0 n1 n2 n3 z0 z1 z2 p0 p1 p2 hR8
              go_wp2_with fail
              go_ret
              exact ⟨10, rfl, (fun h => by cases h), HB9.out⟩
            case pos =>
              have hc2 : ¬ (0 : Int) ≤ cz := by omega
              have HLT : Hid (ltD (y1', y2') (g1, g2)) := (cmpD_lt _ _).1 (by rw [HCZ.out]; exact hcz)
              have HP1 : Hid (PlOk (p.take (j + 1 + 1))) := plok_snoc hN.out HX.out HE.out HG2.out (fun y _ hy => by
                rw [Nat.add_sub_cancel, HY.out] at hy
                injection hy with hy
                rw [← hy]; exact HLT.out)
              clear hcz
              go_wp2_with fail
              go_region_held3 (fun w' => w'.cell? ⟨b, off + j * 3, none⟩ = some (.int .u64 y1') ∧ w'.cell? ⟨b, off + j * 3 + 1, none⟩ = some (.int .u64 y2') ∧ w'.cell? ⟨b, off + (j + 1) * 3, none⟩ = some (.int .u64 g1) ∧ w'.cell? ⟨b, off + (j + 1) * 3 + 1, none⟩ = some (.int .u64 g2))
                (first | exact ⟨z0, z1, p0, p1⟩ | exact ⟨n0.out, n1.out, n2.out, n3.out⟩)
                (first
                  | (go_at_call 86; refine (HCM.out _).mono ?_; rintro e w8 ⟨rfl, hb8⟩
                     have n0 := Lib.hid ((hb8.cell (p := ⟨b, off + j * 3, none⟩) (by show b < _; simp; omega)).trans z0); have n1 := Lib.hid ((hb8.cell (p := ⟨b, off + j * 3 + 1, none⟩) (by show b < _; simp; omega)).trans z1); have n2 := Lib.hid ((hb8.cell (p := ⟨b, off + (j + 1) * 3, none⟩) (by show b < _; simp; omega)).trans p0); have n3 := Lib.hid ((hb8.cell (p := ⟨b, off + (j + 1) * 3 + 1, none⟩) (by show b < _; simp; omega)).trans p1)
                     have hR8 : Hid (Below w7.heap.size w7 w8) := (Below.refl _ w7).drew.trans hb8
                     clear hb8))
              have HB9 : Hid (Below w.heap.size w w8) := HB8.out.trans (hR8.out.mono HB8.out.size)
              clear n0 n1 n2 n3 z0 z1 z2 p0 p1 p2 hR8
              go_wp2_with fail
              go_roundw
              case rel => exact ⟨j + 1 + 1, hlt, by go_num, HP1.out, HB9.out⟩
              case measure => simp [intOf]; omega
    · have hlz : ¬ (k : Int) < (n : Int) := by omega
      have HN : Hid (PlOk p) := by
        have := hN.out
        rwa [List.take_of_length_le (by rw [HL0.out]; omega)] at this
      have HB2 := Lib.hid hBel.out
      clear hN hBel
      go_wp2_with fail
      go_ret
      exact ⟨0, rfl, fun _ => HN.out, HB2.out⟩
end Go.Proofs.YtmdhlkkekidknaaGreatDoor

namespace Go.Proofs.YtmdhlkkekidknaaGreatDoor
open Go.RowKit

def Vl9End (n : Nat) (p : List Itm) (w : World) (e : Ending) (w' : World) : Prop := ∃ r : Bool, e = .returned (.bool r) ∧ (r = true → n ≤ 40 ∧ (∀ i ∈ p, i.2.size ≤ 500) ∧ PlOk p) ∧ Below w.heap.size w w'
set_option maxRecDepth 100000 in
set_option maxHeartbeats 2000000 in
theorem valid9_any (A : Option Addr) (n c : Nat) (p : List Itm) (w : World) (h0 : Sl w w.heap.size 3 A n (flat itC p)) (hn : n ≤ maxLen) (hs : ∀ i ∈ p, i.2.size ≤ maxLen) :
    Calls Tryz.prog 12 #[.slice A n c] w (Vl9End n p w) := by
  have H0 := Lib.hid h0
  have HG := Lib.hid (great8_any A n c w.heap.size p w h0 hn hs)
  unfold Gr8End at HG
  clear h0 hs
  go_enter Tryz.func12, Tryz.ntmps12
  go_wp2_with fail
  refine HG.out.mono ?_
  rintro e w1 ⟨r, rfl, hr, rfl⟩
  have HR := Lib.hid hr
  clear hr HG
  cases r with
  | true =>
    go_wp2_with fail
    go_ret
    exact ⟨false, rfl, (fun h => by cases h), Below.refl _ _⟩
  | false =>
    obtain ⟨hn40, hsz⟩ := HR.out rfl
    have HSZ := Lib.hid hsz
    have HC := Lib.hid (check8_any A n c w.heap.size p w H0.out (Nat.le_refl _) (by omega) (fun i hi => Nat.le_trans (hsz i hi) (by omega)))
    unfold Ck8End at HC
    clear hsz
    go_wp2_with fail
    refine HC.out.mono ?_
    rintro e w2 ⟨err, rfl, he, hb⟩
    have HE := Lib.hid he; have HB := Lib.hid hb
    clear he hb HC
    go_wp2_with fail
    go_ret
    refine ⟨(err == 0), rfl, fun h => ⟨hn40, HSZ.out, HE.out (by simpa using h)⟩, HB.out⟩
end Go.Proofs.YtmdhlkkekidknaaGreatDoor

namespace Go.Proofs.YtmdhlkkekidknaaGreatDoor
open Go.ChangeShapes Go.WideShapes Go.ChangeAt Go.RowKit Go.Joins Go.Deep

theorem cellsU64 : Tryz.prog.cellsOf 28 = 1 := by kernel_rfl
theorem cellsDg : Tryz.prog.cellsOf 30 = 2 := by kernel_rfl
theorem cellsIt : Tryz.prog.cellsOf 38 = 3 := by kernel_rfl
theorem okWide_array {P : Program} {w : World} {r : Reach} {base n : Nat} {t e : TypeId} {v : Value} (ht : P.underlying t = some (.array n e)) (h : Value.okWide P w r base t v) : ∃ cs, v = .agg cs ∧ cs.size = P.cellsOf t := by
  simp only [Value.okWide, ht] at h
  obtain ⟨cs, h1, h2, _⟩ := h
  exact ⟨cs, h1, h2⟩
section
variable {H : Type} {enc : TypeId × Value → H} {P : Program} {w : World} {base : Nat} {spare : Nat → Bool} {held : Bool} {fuel : Nat} {cs : List Value} {x : DataW H × List MemPlace}
theorem trod_dgP {t s : TypeId} (ht : P.underlying t = some (.array 2 s)) (hs : P.underlying s = some (.int .u64))
    (hC : P.cellsOf t = 2) (hcs : P.cellsOf s = 1) (h : DataW.trod enc P w base spare held fuel t cs = some x) : ∃ d : Dig, cs = dgC d ∧ WfD d := by
  obtain ⟨xs, m, _, _, hlen, hxl, hf⟩ := DataW.trod_array ht h
  rw [hC] at hlen
  obtain ⟨c0, c1, rfl⟩ := len2 hlen
  obtain ⟨y0, y1, rfl⟩ := len2 hxl
  have h0 := hf 0 (by omega)
  have h1 := hf 1 (by omega)
  rw [hcs] at h0 h1
  simp at h0 h1
  obtain ⟨a, ha, _, hz⟩ := DataW.trod_int hs h0
  obtain ⟨b, hb, _, hz2⟩ := DataW.trod_int hs h1
  simp at ha hb
  obtain ⟨w1, w2⟩ := bounds_u64 hz
  obtain ⟨w3, w4⟩ := bounds_u64 hz2
  exact ⟨(a, b), by rw [ha, hb]; rfl, ⟨w1, by omega, w3, by omega⟩⟩
theorem trod_itP {t e s u : TypeId} {f0 f1 : Field} (ht : P.underlying t = some (.struct #[f0, f1])) (o0 : f0.offset = 0) (o1 : f1.offset = 2) (t0 : f0.type = e) (t1 : f1.type = s)
    (he : P.underlying e = some (.array 2 u)) (hu : P.underlying u = some (.int .u64)) (hs : P.underlying s = some .string)
    (hC : P.cellsOf t = 3) (hce : P.cellsOf e = 2) (hcu : P.cellsOf u = 1) (hcs : P.cellsOf s = 1) (h : DataW.trod enc P w base spare held fuel t cs = some x) : ∃ i : Itm, cs = itC i ∧ WfD i.1 ∧ i.2.size ≤ maxLen := by
  obtain ⟨xs, m, _, _, hlen, hxl, hf⟩ := DataW.trod_struct ht h
  rw [hC] at hlen
  obtain ⟨c0, c1, c2, rfl⟩ := len3 hlen
  obtain ⟨y0, y1, rfl⟩ := len2 hxl
  have h0 := hf 0 f0 rfl
  have h1 := hf 1 f1 rfl
  rw [o0, t0, hce] at h0
  rw [o1, t1, hcs] at h1
  simp at h0 h1
  obtain ⟨d, hd, hw⟩ := trod_dgP he hu hce hcu h0
  obtain ⟨b, hb, _, hz⟩ := DataW.trod_string hs h1
  simp [dgC] at hd hb
  exact ⟨(d, b), by rw [hd.1, hd.2, hb]; rfl, hw, hz⟩
end
section
variable {H : Type} {enc : TypeId × Value → H} {W : World} {base : Nat} {v : Value} {d : DataW H} {p : List MemPlace} {r : Reach} {b0 : Nat} {sp : Nat → Bool} {held : Bool}
set_option maxRecDepth 100000 in
theorem open_dig (hv : Value.okWide Tryz.prog W r b0 30 v) (h : DataW.Trod enc Tryz.prog W base sp held 30 v d p) : ∃ q : Dig, v = digV q ∧ WfD q := by
  obtain ⟨cs, rfl, hsz⟩ := okWide_array Tryz.underlying30 hv
  obtain ⟨fuel, hf⟩ := h
  obtain ⟨q, he, hw⟩ := trod_dgP Tryz.underlying30 Tryz.underlying28 cellsDg cellsU64 hf
  have : cs.toList = dgC q := he
  exact ⟨q, by rw [show cs = #[.int .u64 q.1, .int .u64 q.2] by rw [← Array.toArray_toList (xs := cs), this]; rfl]; rfl, hw⟩
set_option maxRecDepth 100000 in
theorem open_pool (hv : Value.okWide Tryz.prog W r b0 23 v) (h : DataW.Trod enc Tryz.prog W base sp held 23 v d p) : ∃ A n c is, v = .slice A n c ∧ Sl W W.heap.size 3 A n (flat itC is) ∧ n ≤ c ∧ c ≤ maxLen ∧ ∀ i ∈ is, WfD i.1 ∧ i.2.size ≤ maxLen := by
  obtain ⟨A, n, c, rfl⟩ := okWide_slice Tryz.underlying23 hv
  obtain ⟨fuel, hf⟩ := h
  obtain ⟨A', n', c', us, he, h1, h2, h3, h4⟩ := trod_slP (encA := itC) (Q := fun i => WfD i.1 ∧ i.2.size ≤ maxLen) Tryz.underlying23 cellsIt (by omega) itC_len (fun _ _ _ hh => trod_itP Tryz.underlying38 rfl rfl rfl rfl Tryz.underlying30 Tryz.underlying28 Tryz.underlying9 cellsIt cellsDg cellsU64 cellsStr hh) hf
  refine ⟨A', n', c', us, ?_, h1, h2, h3, h4⟩
  have : [Value.slice A n c] = [Value.slice A' n' c'] := he
  simpa using this
end
end Go.Proofs.YtmdhlkkekidknaaGreatDoor
