/-
  Lemmas: object.Check of a blob. tree.Check. The reference's Find and Has. The reference's insert: an ascending list with one more string. The reference's reach. The reference's steps.
-/
import Derived.Deep.QuietTactic
import Derived.BigQuiet
import Derived.Test.YtddlohbhchjjhaaGreatDoorU7

namespace Go.Proofs.YtddlohbhchjjhaaGreatDoor
open Go.RowKit

theorem src_txt (s : ByteArray) (w : World) : Src Tryz.prog 1 9 (.string s) s.size (bc (toL s)) w := Src.ofString (P := Tryz.prog) w Tryz.underlying9 s
theorem infoByt : (Tryz.prog.info? 5).map (fun i => (i.zero, i.size, i.bytes)) = some (some (.int .u8 0), 1, 1) := by kernel_rfl
theorem Txt.far {w : World} {base av n c : Nat} {A : Option Addr} {bs : Bytes} (h : Txt w base av A n c bs) {p : Addr} (hp : p.block = av) (u : Value) : Txt (w.setCell p u) base av A n c bs :=
  ⟨h.len, h.le, h.max, fun h0 => by
    obtain ⟨b, off, e, h1, h2, h3, h4⟩ := h.lies h0
    have hb : (w.setCell p u).heap[b]? = w.heap[b]? := Below.heap_setCell w p u b (by rw [hp]; exact h1.2)
    have ec : ∀ o, (w.setCell p u).cell? ⟨b, o, none⟩ = w.cell? ⟨b, o, none⟩ := fun o => World.cell?_of_block (a := ⟨b, o, none⟩) hb
    have ef : ∀ o, (w.setCell p u).frozen? ⟨b, o, none⟩ = w.frozen? ⟨b, o, none⟩ := fun o => World.frozen?_of_block (a := ⟨b, o, none⟩) hb
    exact ⟨b, off, e, h1, by simpa using h2, fun j hj => (ec _).trans (h3 j hj), fun j hj => ⟨by rw [ec]; exact (h4 j hj).1, (ef _).trans (h4 j hj).2⟩⟩⟩
theorem halt_txt {P : Program} {ops : Array Oper} {rest : List Oper} {o : Oper} {a : Act} {w : World} {Q : Exit → Act → World → Prop} (s x : Operand) (t tx : TypeId) (_ : o.op = .call { callee := .builtin .append, args := #[s, x], argTypes := #[t, tx] })
    (h : Hid (wpList P ops Q (o :: rest) a w)) : wpList P ops Q (o :: rest) a w := h
structure Wrt (w : World) (b base : Nat) (bs : Bytes) : Prop where
  ex : ∃ A c, Bk w b 207 #[.slice A bs.length c, .bool false] ∧ Txt w base b A bs.length c bs
  lt : b < base
  le : base ≤ w.heap.size
theorem Wrt.below {w w' : World} {b base : Nat} {bs : Bytes} (h : Wrt w b base bs) (hb : Below w.heap.size w w') : Wrt w' b base bs := by
  obtain ⟨A, c, h1, h2⟩ := h.ex
  exact ⟨⟨A, c, h1.below hb h1.lt, h2.below hb⟩, h.lt, Nat.le_trans h.le hb.size⟩
def WrtEnd (b base : Nat) (bs : Bytes) (w : World) (e : Ending) (w' : World) : Prop := e = .returned (.tuple #[]) ∧ Wrt w' b base bs ∧ Below b w w' ∧ w.heap.size ≤ w'.heap.size

set_option maxRecDepth 100000 in
set_option maxHeartbeats 2000000 in
theorem wnumber_any (b base k : Nat) (bs : Bytes) (w : World) (h : Wrt w b base bs) (hk : k ≤ 1099511627776) (hn : bs.length ≤ 1000000) :
    Calls Tryz.prog 183 #[.pointer (some ⟨b, 0, none⟩), .int .i64 k] w (WrtEnd b base (bs ++ encN k) w) := by
  have HP := Lib.hid (putInt_any k hk w)
  have H := Lib.hid h
  have hle := encN_len 5 k (by omega)
  obtain ⟨i0, hi, hz0, hz1, hz2⟩ := info_parts infoByt
  have Hi := Lib.hid hi; have Hz0 := Lib.hid hz0; have Hz1 := Lib.hid hz1; have Hz2 := Lib.hid hz2
  clear h hi hz0 hz1 hz2
  go_enter Tryz.func183, Tryz.ntmps183
  go_wp2_with (go_at_call 225; refine HP.out.mono ?_; rintro e w1 ⟨rfl, hb1⟩; refine halt_ ?_)
  refine unhalt ?_
  have H1 := H.out.below hb1
  obtain ⟨A, c, hk1, ht1⟩ := H1.ex
  have hlt := H1.lt; have hbase := H1.le
  have HB1 : Hid (Below b w w1) := hb1.mono (by have := H.out.lt; have := H.out.le; omega)
  have hz1 := hb1.size
  have HK1 := Lib.hid hk1; have HT1 := Lib.hid ht1
  have c0 := HK1.out.cell 0; have c1 := HK1.out.cell 1; have f1 := HK1.out.free 1
  simp at c0 c1
  clear hb1 H1 hk1 ht1
  obtain ⟨W2, hW2⟩ : ∃ W2, w1.setCell ⟨b, 1, none⟩ (.bool false) = W2 := ⟨_, rfl⟩
  have HK2 : Hid (Bk W2 b 207 #[.slice A bs.length c, .bool false]) := by
    rw [← hW2]; have := HK1.out.set 1 (.bool false); show Bk _ _ _ _; simpa using this
  have HT2 : Hid (Txt W2 base b A bs.length c bs) := by rw [← hW2]; exact HT1.out.far rfl _
  have HB2 : Hid (Below b w W2) := by rw [← hW2]; exact HB1.out.setCell (p := ⟨b, 1, none⟩) (Nat.le_refl _) _
  have zW2 : W2.heap.size = w1.heap.size := by rw [← hW2]; simp
  have d0 := HK2.out.cell 0; have g0 := HK2.out.free 0
  simp at d0
  go_wp2_with (at_builtin; refine halt_txt (.tmp 26) (.tmp 27) 106 9 rfl ?_)
  refine unhalt ?_
  refine wpList_append_txt (base := base) (av := b) rfl (.tmp 26) (.tmp 27) 106 9 rfl 5 i0 Tryz.underlying106 Hi.out Hz0.out Hz1.out Hz2.out A bs.length c bs rfl HT2.out (.string (ofL (encN k))) (encN k).length (encN k) rfl (src_txt (ofL (encN k)) _) (by omega) (by omega) (by omega) ?_
  intro A' c' w3 ht3 hb3 hk3
  have HK3 : Hid (Bk w3 b 207 #[.slice A bs.length c, .bool false]) := hk3.trans HK2.out
  have HT3 := Lib.hid ht3
  have HB3 : Hid (Below b w w3) := HB2.out.trans (hb3.mono (by omega))
  have hz3 := hb3.size
  have e0 := HK3.out.cell 0; have e1 := HK3.out.free 0
  simp at e0
  clear ht3 hb3 hk3 d0 g0 c0 c1 f1
  go_wp2_with fail
  go_end0
  have hl : (bs ++ encN k).length = bs.length + (encN k).length := by simp
  refine ⟨rfl, ⟨⟨A', c', ?_, ?_⟩, hlt, by simp; omega⟩, HB3.out.setCell (p := ⟨b, 0, none⟩) (Nat.le_refl _) _, by simp; omega⟩
  · rw [hl]; have := HK3.out.set 0 (.slice A' (bs.length + (encN k).length) c'); show Bk _ _ _ _; simpa using this
  · rw [hl]; exact HT3.out.far rfl _
set_option maxRecDepth 100000 in
set_option maxHeartbeats 2000000 in
theorem wstring_any (b base : Nat) (s : ByteArray) (bs : Bytes) (w : World) (h : Wrt w b base bs) (hk : s.size ≤ 65536) (hn : bs.length ≤ 1000000) :
    Calls Tryz.prog 184 #[.pointer (some ⟨b, 0, none⟩), .string s] w (WrtEnd b base (bs ++ encT (toL s)) w) := by
  have HP := Lib.hid (putText_any s hk w)
  have H := Lib.hid h
  have hle : (encT (toL s)).length ≤ 70000 := by
    have h1 := encN_len 5 s.size (by omega)
    have h2 := size_toL s
    unfold encT; rw [List.length_append, ← h2]; omega
  obtain ⟨i0, hi, hz0, hz1, hz2⟩ := info_parts infoByt
  have Hi := Lib.hid hi; have Hz0 := Lib.hid hz0; have Hz1 := Lib.hid hz1; have Hz2 := Lib.hid hz2
  clear h hi hz0 hz1 hz2
  go_enter Tryz.func184, Tryz.ntmps184
  go_wp2_with (go_at_call 226; refine HP.out.mono ?_; rintro e w1 ⟨rfl, hb1⟩; refine halt_ ?_)
  refine unhalt ?_
  have H1 := H.out.below hb1
  obtain ⟨A, c, hk1, ht1⟩ := H1.ex
  have hlt := H1.lt; have hbase := H1.le
  have HB1 : Hid (Below b w w1) := hb1.mono (by have := H.out.lt; have := H.out.le; omega)
  have hz1 := hb1.size
  have HK1 := Lib.hid hk1; have HT1 := Lib.hid ht1
  have c0 := HK1.out.cell 0; have c1 := HK1.out.cell 1; have f1 := HK1.out.free 1
  simp at c0 c1
  clear hb1 H1 hk1 ht1
  obtain ⟨W2, hW2⟩ : ∃ W2, w1.setCell ⟨b, 1, none⟩ (.bool false) = W2 := ⟨_, rfl⟩
  have HK2 : Hid (Bk W2 b 207 #[.slice A bs.length c, .bool false]) := by
    rw [← hW2]; have := HK1.out.set 1 (.bool false); show Bk _ _ _ _; simpa using this
  have HT2 : Hid (Txt W2 base b A bs.length c bs) := by rw [← hW2]; exact HT1.out.far rfl _
  have HB2 : Hid (Below b w W2) := by rw [← hW2]; exact HB1.out.setCell (p := ⟨b, 1, none⟩) (Nat.le_refl _) _
  have zW2 : W2.heap.size = w1.heap.size := by rw [← hW2]; simp
  have d0 := HK2.out.cell 0; have g0 := HK2.out.free 0
  simp at d0
  go_wp2_with (at_builtin; refine halt_txt (.tmp 25) (.tmp 26) 106 9 rfl ?_)
  refine unhalt ?_
  refine wpList_append_txt (base := base) (av := b) rfl (.tmp 25) (.tmp 26) 106 9 rfl 5 i0 Tryz.underlying106 Hi.out Hz0.out Hz1.out Hz2.out A bs.length c bs rfl HT2.out (.string (ofL (encT (toL s)))) (encT (toL s)).length (encT (toL s)) rfl (src_txt (ofL (encT (toL s))) _) (by omega) (by omega) (by omega) ?_
  intro A' c' w3 ht3 hb3 hk3
  have HK3 : Hid (Bk w3 b 207 #[.slice A bs.length c, .bool false]) := hk3.trans HK2.out
  have HT3 := Lib.hid ht3
  have HB3 : Hid (Below b w w3) := HB2.out.trans (hb3.mono (by omega))
  have hz3 := hb3.size
  have e0 := HK3.out.cell 0; have e1 := HK3.out.free 0
  simp at e0
  clear ht3 hb3 hk3 d0 g0 c0 c1 f1
  go_wp2_with fail
  go_end0
  have hl : (bs ++ encT (toL s)).length = bs.length + (encT (toL s)).length := by simp
  refine ⟨rfl, ⟨⟨A', c', ?_, ?_⟩, hlt, by simp; omega⟩, HB3.out.setCell (p := ⟨b, 0, none⟩) (Nat.le_refl _) _, by simp; omega⟩
  · rw [hl]; have := HK3.out.set 0 (.slice A' (bs.length + (encT (toL s)).length) c'); show Bk _ _ _ _; simpa using this
  · rw [hl]; exact HT3.out.far rfl _
@[go_sem] theorem guardDgo : Tryz.prog.eqGuardType Tryz.prog.depth 122 = false := by kernel_rfl
theorem eqDgo0 (dd : Nat) (a b c d : Int) (w : World) : (Op.equalIn (dd + 2) 122 (.agg #[.int .u64 a, .int .u64 b]) (.agg #[.int .u64 c, .int .u64 d])).run Tryz.prog w = .ok (a == c && b == d) w := by
  have u3 := Tryz.underlying120
  have a3 := Tryz.isAgg120
  have z3 := Tryz.sizeOf120
  rw [Op.equalIn]
  simp only [Sem.run_bind, run_underlying Tryz.underlying122, Result.andThen_ok]
  simp only [Std.Legacy.Range.forIn_eq_forIn_range', Std.Legacy.Range.size, Nat.sub_zero, Nat.add_sub_cancel, Nat.div_one, List.range'_succ, List.range'_zero, List.forIn_cons, List.forIn_nil]
  go_simp
  by_cases h1 : a = c <;> by_cases h2 : b = d <;> simp [h1, h2]
@[go_sem high] theorem eqDgo (a b c d : Int) (w : World) : (Op.equalIn 10000 122 (.agg #[.int .u64 a, .int .u64 b]) (.agg #[.int .u64 c, .int .u64 d])).run Tryz.prog w = .ok (a == c && b == d) w := eqDgo0 9998 a b c d w
def blobC (d : ByteArray) : Array Value := #[.int .i64 1, .string d, .slice none 0 0, .int .u64 0, .int .u64 0, .slice none 0 0, .string ⟨#[]⟩, .int .i64 0, .string ⟨#[]⟩]
theorem resultsBlb {w : World} {a : Array Value} {b : Nat} {d : ByteArray} (ha : a[2]?.getD undef = .pointer (some ⟨b, 0, none⟩)) (h : Bk w b 125 (blobC d)) : (results Tryz.f93 a).run Tryz.prog w = .ok (.agg (blobC d)) w := by
  have c0 := h.cell 0; have c1 := h.cell 1; have c2 := h.cell 2; have c3 := h.cell 3; have c4 := h.cell 4; have c5 := h.cell 5; have c6 := h.cell 6; have c7 := h.cell 7; have c8 := h.cell 8
  simp [blobC] at c0 c1 c2 c3 c4 c5 c6 c7 c8
  simp [results, Tryz.results93, ha, go_sem, blobC, c0, c1, c2, c3, c4, c5, c6, c7, c8]
theorem blob_any (d : ByteArray) (w : World) : Calls Tryz.prog 93 #[.string d] w fun e w' => e = .returned (.agg (blobC d)) ∧ Below w.heap.size w w' := by
  go_enter Tryz.func93, Tryz.ntmps93
  go_wp2
  have hk : Bk (w.alloc (.cells (blobC d) 125)) w.heap.size 125 (blobC d) := Bk.new w _ _
  exact bodyPost_ret (resultsBlb rfl hk) rfl ⟨rfl, (Below.refl _ w).alloc (Nat.le_refl _) _⟩
set_option maxRecDepth 100000 in
set_option maxHeartbeats 2000000 in
theorem ocheck1_any (d : ByteArray) (w : World) : Calls Tryz.prog 182 #[.agg (blobC d)] w fun e w' => e = .returned (.int .i64 0) ∧ Below w.heap.size w w' := by
  unfold blobC
  go_enter Tryz.func182, Tryz.ntmps182
  go_wp2
  all_goals (go_ret; exact ⟨rfl, (Below.refl _ w).alloc (Nat.le_refl _) _⟩)
set_option maxRecDepth 100000 in
set_option maxHeartbeats 2000000 in
theorem oenc_any (d : ByteArray) (w : World) (hd : d.size ≤ 60000) : Calls Tryz.prog 134 #[.agg (blobC d)] w fun e w' => e = .returned (.tuple #[.string (ofL (encN 1 ++ encT (toL d))), .int .i64 0]) ∧ Below w.heap.size w w' := by
  have hsd := size_toL d
  have hle : (encT (toL d)).length ≤ 60006 := by
    have h1 := encN_len 5 d.size (by omega)
    unfold encT; rw [List.length_append, ← hsd]; omega
  have hl1 : (encN 1).length = 1 := by rw [encN_small (by omega)]; rfl
  have HC := fun w => Lib.hid (ocheck1_any d w)
  unfold blobC at HC ⊢
  obtain ⟨W0, hW0⟩ : ∃ W0, w.alloc (.cells #[.int .i64 1, .string d, .slice none 0 0, .int .u64 0, .int .u64 0, .slice none 0 0, .string ⟨#[]⟩, .int .i64 0, .string ⟨#[]⟩] 125) = W0 := ⟨_, rfl⟩
  have HB0 : Hid (Below w.heap.size w W0) := by rw [← hW0]; exact (Below.refl _ w).alloc (Nat.le_refl _) _
  have HK0 : Hid (Bk W0 w.heap.size 125 #[.int .i64 1, .string d, .slice none 0 0, .int .u64 0, .int .u64 0, .slice none 0 0, .string ⟨#[]⟩, .int .i64 0, .string ⟨#[]⟩]) := by rw [← hW0]; exact Bk.new w _ _
  have zW0 : W0.heap.size = w.heap.size + 1 := by rw [← hW0]; simp
  have HC0 := HC W0
  have c0 := HK0.out.cell 0; have c1 := HK0.out.cell 1; have c2 := HK0.out.cell 2; have c3 := HK0.out.cell 3; have c4 := HK0.out.cell 4; have c5 := HK0.out.cell 5; have c6 := HK0.out.cell 6; have c7 := HK0.out.cell 7; have c8 := HK0.out.cell 8
  simp at c0 c1 c2 c3 c4 c5 c6 c7 c8
  clear HC
  go_enter Tryz.func134, Tryz.ntmps134
  go_wp2_with fail
  refine HC0.out.mono ?_
  rintro e w1 ⟨rfl, hb1⟩
  have HB1 : Hid (Below w.heap.size w w1) := HB0.out.trans (hb1.mono (by omega))
  have HK1 := Lib.hid (HK0.out.below hb1 (by omega))
  have hz1 := hb1.size
  clear hb1 hW0 c0 c1 c2 c3 c4 c5 c6 c7 c8 HC0
  obtain ⟨W2, hW2⟩ : ∃ W2, w1.alloc (.cells #[.slice none 0 0, .bool false] 207) = W2 := ⟨_, rfl⟩
  have zW2 : W2.heap.size = w1.heap.size + 1 := by rw [← hW2]; simp
  have HB2 : Hid (Below w1.heap.size w1 W2) := by rw [← hW2]; exact (Below.refl _ w1).alloc (Nat.le_refl _) _
  have HW2 : Hid (Wrt W2 w1.heap.size (w1.heap.size + 1) []) := ⟨⟨none, 0, by rw [← hW2]; exact Bk.new w1 _ _, Txt.nil _ _ _ _⟩, by omega, by omega⟩
  have HK2 := Lib.hid (HK1.out.below HB2.out (by omega))
  have HN := Lib.hid (wnumber_any w1.heap.size (w1.heap.size + 1) 1 [] W2 HW2.out (by omega) (by simp))
  have c0 := HK2.out.cell 0
  simp at c0
  go_wp2_with (go_at_call 183; refine HN.out.mono ?_; rintro e w3 ⟨rfl, hw3, hb3, hz3⟩; refine halt_ ?_)
  refine unhalt ?_
  have HW3 := Lib.hid hw3
  have HB3 : Hid (Below w1.heap.size w1 w3) := HB2.out.trans hb3
  have HK3 := Lib.hid (HK2.out.below hb3 (by omega))
  clear hw3 hb3 hW2 c0 HN
  have HS := Lib.hid (wstring_any w1.heap.size (w1.heap.size + 1) d (([] : Bytes) ++ encN 1) w3 HW3.out (by omega) (by simp [hl1]))
  have c0 := HK3.out.cell 0; have c1 := HK3.out.cell 1
  simp at c0 c1
  go_wp2_with (go_at_call 184; refine HS.out.mono ?_; rintro e w4 ⟨rfl, hw4, hb4, hz4⟩; refine halt_ ?_)
  refine unhalt ?_
  obtain ⟨A, cc, hk4, ht4⟩ := hw4.ex
  rw [List.nil_append] at hk4 ht4
  have hln : (encN 1 ++ encT (toL d)).length ≤ 60007 := by rw [List.length_append, hl1]; omega
  have hlz : ¬ (65536 : Int) < ((encN 1 ++ encT (toL d)).length : Int) := by omega
  have HB4 : Hid (Below w1.heap.size w1 w4) := HB3.out.trans hb4
  have d0 := hk4.cell 0; have d1 := hk4.cell 1
  simp only [List.getElem?_toArray, List.getElem?_cons_zero, List.getElem?_cons_succ] at d0 d1
  have hcv := ht4.run_string (P := Tryz.prog) 106 9 5 Tryz.underlying106 Tryz.underlying5 Tryz.underlying9
  obtain ⟨bs, hbs⟩ : ∃ bs, encN 1 ++ encT (toL d) = bs := ⟨_, rfl⟩
  rw [hbs] at d0 hcv hlz
  have HBS := Lib.hid hbs
  clear hw4 hb4 hk4 ht4 c0 c1 HS hln hbs
  go_wp2_with fail
  go_ret2
  refine ⟨by rw [HBS.out]; rfl, HB1.out.trans (HB4.out.mono (by omega))⟩
set_option maxHeartbeats 1000000 in
theorem ocheck_any (d : ByteArray) (w : World) (hd : d.size ≤ 60000) : Calls Tryz.prog 92 #[.agg (blobC d)] w fun e w' => e = .returned (.int .i64 0) ∧ Below w.heap.size w w' := by
  have HE := fun w => Lib.hid (oenc_any d w hd)
  unfold blobC at HE ⊢
  have HB0 : Hid (Below w.heap.size w (w.alloc (.cells #[.int .i64 1, .string d, .slice none 0 0, .int .u64 0, .int .u64 0, .slice none 0 0, .string ⟨#[]⟩, .int .i64 0, .string ⟨#[]⟩] 125))) := (Below.refl _ w).alloc (Nat.le_refl _) _
  have HE0 := HE (w.alloc (.cells #[.int .i64 1, .string d, .slice none 0 0, .int .u64 0, .int .u64 0, .slice none 0 0, .string ⟨#[]⟩, .int .i64 0, .string ⟨#[]⟩] 125))
  clear HE
  go_enter Tryz.func92, Tryz.ntmps92
  go_wp2_with (go_at_call 134; refine HE0.out.mono ?_; rintro e w1 ⟨rfl, hb1⟩)
  go_ret
  exact ⟨rfl, HB0.out.trans (hb1.mono (by simp))⟩
end Go.Proofs.YtddlohbhchjjhaaGreatDoor

namespace Go.Proofs.YtddlohbhchjjhaaGreatDoor
open Go.RowKit Go.Maps

def upB : Option ByteArray → ByteArray → Bool
  | none, _ => true
  | some q, s => less q s
def tchk : Option ByteArray → List Fl → Int
  | _, [] => 0
  | p, f :: r => if pathB f.1 = true then (if upB p f.1 = true then tchk (some f.1) r else 10) else 6
def prevT (fs : List Fl) (k : Nat) : Option ByteArray := if k = 0 then none else (fs[k - 1]?).map Prod.fst
theorem tchk_at {fs : List Fl} {k : Nat} {f : Fl} (h : fs[k]? = some f) : tchk (prevT fs k) (fs.drop k) = if pathB f.1 = true then (if upB (prevT fs k) f.1 = true then tchk (prevT fs (k + 1)) (fs.drop (k + 1)) else 10) else 6 := by
  have hp : prevT fs (k + 1) = some f.1 := by unfold prevT; rw [if_neg (by omega), Nat.add_sub_cancel, h]; rfl
  rw [List.drop_eq_getElem_cons (List.getElem?_eq_some_iff.1 h).1, (List.getElem?_eq_some_iff.1 h).2, tchk, hp]
def dirAt (ps : List ByteArray) (s : ByteArray) (k : Nat) : Bool := decide ((bl s)[k]? = some 47) && memB ps (s.extract 0 k)
def DirE (fs : List Fl) : Prop := ∃ f ∈ fs, ∃ j, j < f.1.size ∧ dirAt (fs.map Prod.fst) f.1 j = true
def TckR (fs : List Fl) (err : Int) : Prop :=
  (200 < fs.length ∧ err = 4) ∨ (fs.length ≤ 200 ∧ tchk none fs ≠ 0 ∧ err = tchk none fs) ∨ (fs.length ≤ 200 ∧ tchk none fs = 0 ∧ ((DirE fs ∧ err = 7) ∨ (¬ DirE fs ∧ err = 0)))
theorem TckR.same {fs : List Fl} {e f : Int} (h : TckR fs e) (g : TckR fs f) : e = f := by
  rcases h with ⟨h1, h2⟩ | ⟨h1, h2, h3⟩ | ⟨h1, h2, h3⟩
  · rcases g with ⟨_, g2⟩ | ⟨g1, _⟩ | ⟨g1, _⟩
    · rw [h2, g2]
    · omega
    · omega
  · rcases g with ⟨g1, _⟩ | ⟨_, _, g3⟩ | ⟨_, g2, _⟩
    · omega
    · rw [h3, g3]
    · exact absurd g2 h2
  · rcases g with ⟨g1, _⟩ | ⟨_, g2, _⟩ | ⟨_, _, g3⟩
    · omega
    · exact absurd h2 g2
    · rcases h3 with ⟨h3, h4⟩ | ⟨h3, h4⟩
      · rcases g3 with ⟨_, g4⟩ | ⟨g3, _⟩
        · rw [h4, g4]
        · exact absurd h3 g3
      · rcases g3 with ⟨g3, _⟩ | ⟨_, g4⟩
        · exact absurd g3 h3
        · rw [h4, g4]

set_option maxRecDepth 100000 in
set_option maxHeartbeats 8000000 in
theorem tcheck_any (A : Option Addr) (n c B : Nat) (fs : List Fl) (w : World) (h0 : Sl w B 2 A n (flat flC fs)) (hB : B ≤ w.heap.size) (hn : n ≤ 1000000) (hsz : ∀ f ∈ fs, f.1.size ≤ 1000000 ∧ f.2.size ≤ 60000) :
    Calls Tryz.prog 46 #[.slice A n c] w fun e w' => ∃ err, e = .returned (.int .i64 err) ∧ TckR fs err ∧ Below w.heap.size w w' := by
  have HL := Lib.hid (h0.len flC_len (by omega))
  have H0 := Lib.hid h0; have HSZ := Lib.hid hsz
  clear h0 hsz
  have hmm := @run_makeMap Tryz.prog
  have hzz := Tryz.zeroValue4
  go_enter Tryz.func46, Tryz.ntmps46
  by_cases hbig : (200 : Int) < (n : Int)
  · have HE : Hid (TckR fs 4) := .inl ⟨by rw [HL.out]; omega, rfl⟩
    go_wp2_with fail
    go_ret
    exact ⟨4, rfl, HE.out, Below.refl _ _⟩
  have hsm : n ≤ 200 := by omega
  have HM0 : Hid (Rm (w.alloc (.map #[] 0)) Tryz.prog 9 w.heap.size 0 (pG ((fs.take 0).map Prod.fst))) := by
    show Rm _ _ _ _ _ (pG []); rw [pG_nil]; exact Rm.made w Tryz.prog 9
  obtain ⟨r, hr⟩ : ∃ r, tchk none fs = r := ⟨_, rfl⟩
  have HR := Lib.hid hr
  clear hr
  go_wp2_with fail
  go_loopw [15] (fun i wr => ∃ k : Nat, k ≤ n ∧ i = .int .i64 k ∧ Hid (Rm wr Tryz.prog 9 w.heap.size k (pG ((fs.take k).map Prod.fst))) ∧ Hid (r = tchk (prevT fs k) (fs.drop k)) ∧ Hid (Below w.heap.size w wr) ∧ w.heap.size < wr.heap.size) (fun i _ => n - (intOf i).toNat)
  case atStart => exact ⟨0, Nat.zero_le _, rfl, HM0.out, HR.out.symm, (Below.refl _ w).alloc (Nat.le_refl _) _, by simp⟩
  case round =>
    obtain ⟨k, hk, rfl, hM, hC, hBel, hwz⟩ := hrel
    by_cases hlt : k < n
    · obtain ⟨b, off, f, rfl, hbB, hf, y0, y1⟩ := (H0.out.below hBel.out hB).fl hlt
      have hlz : (k : Int) < (n : Int) := by omega
      have HF := Lib.hid hf
      have hfs := HSZ.out f (List.mem_of_getElem? hf)
      have hfm : f.1.size ≤ maxLen := by unfold maxLen; omega
      have HC := hC
      rw [tchk_at hf] at HC
      obtain ⟨W2, hW2⟩ : ∃ W2, wr.alloc (.cells #[.string f.1, .string f.2] 42) = W2 := ⟨_, rfl⟩
      have HK2 : Hid (Bk W2 wr.heap.size 42 #[.string f.1, .string f.2]) := by rw [← hW2]; exact Bk.new wr _ _
      have zW2 : W2.heap.size = wr.heap.size + 1 := by rw [← hW2]; simp
      have HB2 : Hid (Below wr.heap.size wr W2) := by rw [← hW2]; exact (Below.refl _ wr).alloc (Nat.le_refl _) _
      have HPT := Lib.hid (isPath_any f.1 W2 hfm)
      have x0 := HK2.out.cell 0
      simp at x0
      have HTK := Lib.hid (take_snoc hf)
      clear hf
      go_wp2_with (go_at_call 91; refine HPT.out.mono ?_; rintro e w3 ⟨rfl, hb3⟩; refine halt_ ?_)
      refine unhalt ?_
      have HB3 : Hid (Below wr.heap.size wr w3) := HB2.out.trans (hb3.mono (by omega))
      have HK3 := Lib.hid (HK2.out.below hb3 (by omega))
      have hz3 := hb3.size
      have x0 := HK3.out.cell 0; have x1 := HK3.out.cell 1
      simp at x0 x1
      clear hb3 HPT hW2
      cases hp : pathB f.1 with
      | false =>
        have HE : Hid (TckR fs 6) := .inr (.inl ⟨by rw [HL.out]; omega, by rw [HR.out, HC.out, hp]; simp, by rw [HR.out, HC.out, hp]; simp⟩)
        clear hp
        go_wp2_with fail
        go_ret
        exact ⟨6, rfl, HE.out, hBel.out.trans (HB3.out.mono (by omega))⟩
      | true =>
        rw [hp, if_pos rfl] at HC
        have HBL := Lib.hid (blob_any f.2 w3)
        clear hp
        go_wp2_with (go_at_call 93; refine HBL.out.mono ?_; rintro e w4 ⟨rfl, hb4⟩; refine halt_ ?_)
        refine unhalt ?_
        have HOC := Lib.hid (ocheck_any f.2 w4 hfs.2)
        have HK4 := Lib.hid (HK3.out.below hb4 (by omega))
        have HB4 : Hid (Below wr.heap.size wr w4) := HB3.out.trans (hb4.mono (by omega))
        have hz4 := hb4.size
        clear hb4 HBL x0 x1
        go_wp2_with (go_at_call 92; refine HOC.out.mono ?_; rintro e w5 ⟨rfl, hb5⟩; refine halt_ ?_)
        refine unhalt ?_
        have HK5 := Lib.hid (HK4.out.below hb5 (by omega))
        have HB5 : Hid (Below wr.heap.size wr w5) := HB4.out.trans (hb5.mono (by omega))
        have hz5 := hb5.size
        clear hb5 HOC
        obtain ⟨q5, hq5⟩ : ∃ q5 : Nat, q5 = 0 := ⟨0, rfl⟩
        cases k with
        | zero =>
          have HN : Hid (r = tchk (prevT fs 1) (fs.drop 1)) := by
            show _ = _
            rw [HC.out, if_pos]
            simp [prevT, upB]
          have HM5 := Lib.hid (hM.out.below HB5.out hwz)
          clear HC hC
          go_wp2_with fail
          go_quiet (fail)
          have HK6 := Lib.hid (HK5.out.drewN nq)
          have HM6 : Hid (Rm (w5.drewN nq) Tryz.prog 9 w.heap.size 0 (pG ((fs.take 0).map Prod.fst))) := HM5.out.below (below_drewN (Below.refl _ w5) nq) (by omega)
          have HB6 : Hid (Below wr.heap.size wr (w5.drewN nq)) := below_drewN HB5.out nq
          have x0 := HK6.out.cell 0
          simp at x0
          go_wp2_with (at_mapUpdate; refine halt_ ?_)
          refine unhalt ?_
          refine wpList_put_rm rfl _ _ _ 66 rfl 9 4 Tryz.underlying9 Tryz.underlying66 w.heap.size 0 _ rfl HM6.out (by unfold maxLen; omega) f.1 hfm _ rfl rfl ?_
          intro w7 hM7 hg7
          replace hM7 : Rm w7 Tryz.prog 9 w.heap.size (0 + 1) (upd (pG ((fs.take 0).map Prod.fst)) f.1 (.bool true)) := hM7
          rw [← pG_snoc] at hM7
          have HM7 : Hid (Rm w7 Tryz.prog 9 w.heap.size (0 + 1) (pG ((fs.take (0 + 1)).map Prod.fst))) := by show Rm _ _ _ _ _ _; rw [HTK.out, List.map_append]; exact hM7
          have HB7 : Hid (Below w.heap.size w w7) := (hBel.out.trans (HB6.out.mono (by omega))).grown hg7 (by have := HB6.out.size; omega) (fun q e => by cases e; omega)
          have hz7 := hg7.size
          have hz6 : wr.heap.size ≤ (w5.drewN nq).heap.size := HB6.out.size
          clear hM7 hg7 x0
          go_wp2_with fail
          go_roundw
          case rel => exact ⟨0 + 1, by omega, by go_num, HM7.out, HN.out, HB7.out, by omega⟩
          case measure => simp [intOf]; omega
        | succ k =>
          have HM5 := Lib.hid (hM.out.below HB5.out hwz)
          have hBe5 : Below w.heap.size w w5 := hBel.out.trans (HB5.out.mono (by omega))
          obtain ⟨b', off', p, hbe, _, hpp, p0, _⟩ := (H0.out.below hBe5 hB).fl (show k < n by omega)
          cases hbe
          obtain ⟨le, hle⟩ : ∃ le, (Op.bytesLess f.1.toList p.1.toList || f.1.toList == p.1.toList) = le := ⟨_, rfl⟩
          have hls := le_not_less hle
          have hpv : prevT fs (k + 1) = some p.1 := by unfold prevT; rw [if_neg (by omega), Nat.add_sub_cancel, hpp]; rfl
          rw [hpv, upB] at HC
          have hg0 : decide ((0 : Int) < ((k + 1 : Nat) : Int)) = true := by rw [decide_eq_true_iff]; omega
          have x5 := HK5.out.cell 0
          simp at x5
          clear hpp hpv hC hBe5
          rw [hls] at HC
          clear hls
          cases le with
          | false =>
            have HN : Hid (r = tchk (prevT fs (k + 1 + 1)) (fs.drop (k + 1 + 1))) := by show _ = _; rw [HC.out, if_pos (by decide)]
            clear HC
            go_wp2_with fail
            go_quiet (fail)
            clear x5 p0 hle
            have HK6 := Lib.hid (HK5.out.drewN nq)
            have HM6 : Hid (Rm (w5.drewN nq) Tryz.prog 9 w.heap.size (k + 1) (pG ((fs.take (k + 1)).map Prod.fst))) := HM5.out.below (below_drewN (Below.refl _ w5) nq) (by omega)
            have HB6 : Hid (Below wr.heap.size wr (w5.drewN nq)) := below_drewN HB5.out nq
            have x0 := HK6.out.cell 0
            simp at x0
            go_wp2_with (at_mapUpdate; refine halt_ ?_)
            refine unhalt ?_
            refine wpList_put_rm rfl _ _ _ 66 rfl 9 4 Tryz.underlying9 Tryz.underlying66 w.heap.size (k + 1) _ rfl HM6.out (by unfold maxLen; omega) f.1 hfm _ rfl rfl ?_
            intro w7 hM7 hg7
            replace hM7 : Rm w7 Tryz.prog 9 w.heap.size ((k + 1) + 1) (upd (pG ((fs.take (k + 1)).map Prod.fst)) f.1 (.bool true)) := hM7
            rw [← pG_snoc] at hM7
            have HM7 : Hid (Rm w7 Tryz.prog 9 w.heap.size ((k + 1) + 1) (pG ((fs.take ((k + 1) + 1)).map Prod.fst))) := by show Rm _ _ _ _ _ _; rw [HTK.out, List.map_append]; exact hM7
            have HB7 : Hid (Below w.heap.size w w7) := (hBel.out.trans (HB6.out.mono (by omega))).grown hg7 (by have := HB6.out.size; omega) (fun q e => by cases e; omega)
            have hz7 := hg7.size
            have hz6 : wr.heap.size ≤ (w5.drewN nq).heap.size := HB6.out.size
            clear hM7 hg7 x0
            go_wp2_with fail
            go_roundw
            case rel => exact ⟨(k + 1) + 1, by omega, by go_num, HM7.out, HN.out, HB7.out, by omega⟩
            case measure => simp [intOf]; omega
          | true =>
            have HE : Hid (TckR fs 10) := .inr (.inl ⟨by rw [HL.out]; omega, by rw [HR.out, HC.out]; simp, by rw [HR.out, HC.out]; simp⟩)
            clear HC
            go_wp2_with fail
            go_quiet (fail)
            go_wp2_with fail
            go_ret
            exact ⟨10, rfl, HE.out, hBel.out.trans (below_drewN (HB5.out.mono (by omega)) _)⟩
    · have hlz : ¬ (k : Int) < (n : Int) := by omega
      have HZ : Hid (tchk none fs = 0) := by
        show _ = _
        rw [HR.out, hC.out, List.drop_of_length_le (by rw [HL.out]; omega)]
        rfl
      have HMP : Hid (Rm wr Tryz.prog 9 w.heap.size k (pG (fs.map Prod.fst))) := by
        have h1 := hM.out
        rw [List.take_of_length_le (by rw [HL.out]; omega)] at h1
        exact h1
      have HBE := Lib.hid hBel.out
      obtain ⟨we, hwe⟩ : ∃ we, we = wr := ⟨_, rfl⟩
      subst hwe
      clear hM hC hBel
      go_wp2_with fail
      go_loopw [51] (fun i wr => ∃ j : Nat, j ≤ n ∧ i = .int .i64 j ∧ Hid (∀ f ∈ fs.take j, ∀ q, q < f.1.size → dirAt (fs.map Prod.fst) f.1 q = false) ∧ Hid (Below we.heap.size we wr)) (fun i _ => n - (intOf i).toNat)
      case atStart => exact ⟨0, Nat.zero_le _, rfl, fun f hf => by simp at hf, Below.refl _ _⟩
      case round =>
        obtain ⟨j, hj, rfl, hNo, hBj⟩ := hrel
        have hwj := hBj.out.size
        by_cases hjn : j < n
        · have hBw2 : Below w.heap.size w wr := HBE.out.trans (hBj.out.mono (by omega))
          obtain ⟨b, off, f, rfl, hbB, hf, y0, y1⟩ := (H0.out.below hBw2 hB).fl hjn
          have hjz : (j : Int) < (n : Int) := by omega
          have HF := Lib.hid hf
          have hfs := HSZ.out f (List.mem_of_getElem? hf)
          obtain ⟨W2, hW2⟩ : ∃ W2, wr.alloc (.cells #[.string f.1, .string f.2] 42) = W2 := ⟨_, rfl⟩
          have HK2 : Hid (Bk W2 wr.heap.size 42 #[.string f.1, .string f.2]) := by rw [← hW2]; exact Bk.new wr _ _
          have HB2 : Hid (Below we.heap.size we W2) := by rw [← hW2]; exact hBj.out.alloc hwj _
          have HM2 := Lib.hid (HMP.out.below HB2.out hwz)
          have x0 := HK2.out.cell 0
          simp at x0
          obtain ⟨wm, hwm⟩ : ∃ wm, wm = wr := ⟨_, rfl⟩
          subst hwm
          clear hf hBw2
          go_wp2_with fail
          clear hW2
          go_loopw [58] (fun i wr => ∃ q : Nat, q ≤ f.1.size ∧ i = .int .i64 q ∧ Hid (∀ m, m < q → dirAt (fs.map Prod.fst) f.1 m = false) ∧ wr = W2) (fun i _ => f.1.size - (intOf i).toNat)
          case atStart => exact ⟨0, Nat.zero_le _, rfl, fun m hm => absurd hm (by omega), rfl⟩
          case round =>
            obtain ⟨q, hq, rfl, hNq, rfl⟩ := hrel
            by_cases hqs : q < f.1.size
            · have hqz : (q : Int) < (f.1.size : Int) := by omega
              have hql : (q : Int) ≤ (f.1.size : Int) := by omega
              have hxs : (f.1.extract 0 q).size ≤ maxLen := by simp; unfold maxLen; omega
              have hg := get_data f.1 q hqs
              have HG : Hid ((bl f.1)[q]? = some f.1[q]) := hg
              have hlk := HM2.out.look Tryz.underlying9 Tryz.underlying66 (hzz _) hxs
              rw [pG_get] at hlk
              clear hg
              by_cases h47 : f.1[q] = 47
              · have t1 : (((f.1[q].toNat : Nat) : Int) == 47) = true := by simp [h47]
                cases hm : memB (fs.map Prod.fst) (f.1.extract 0 q) with
                | true =>
                  have HE : Hid (TckR fs 7) := .inr (.inr ⟨by rw [HL.out]; omega, HZ.out, .inl ⟨⟨f, List.mem_of_getElem? HF.out, q, hqs, by unfold dirAt; rw [HG.out, h47, hm]; rfl⟩, rfl⟩⟩)
                  rw [hm] at hlk
                  clear hm h47
                  go_wp2_with fail
                  go_ret
                  exact ⟨7, rfl, HE.out, HBE.out.trans (HB2.out.mono (by omega))⟩
                | false =>
                  have HN2 : Hid (∀ m, m < q + 1 → dirAt (fs.map Prod.fst) f.1 m = false) := fun m hm' => by
                    by_cases e : m = q
                    · subst e; unfold dirAt; rw [hm]; simp
                    · exact hNq.out m (by omega)
                  rw [hm] at hlk
                  clear hm h47 hNq
                  go_wp2_with fail
                  go_roundw
                  case rel => exact ⟨q + 1, hqs, by go_num, HN2.out, trivial⟩
                  case measure => simp [intOf]; omega
              · have t1 : (((f.1[q].toNat : Nat) : Int) == 47) = false := by
                  rw [beq_eq_false_iff_ne]; intro e
                  apply h47
                  apply UInt8.toNat_inj.1
                  show f.1[q].toNat = 47
                  omega
                have HN2 : Hid (∀ m, m < q + 1 → dirAt (fs.map Prod.fst) f.1 m = false) := fun m hm' => by
                  by_cases e : m = q
                  · subst e; unfold dirAt; rw [HG.out, decide_eq_false (fun e => h47 (Option.some.inj e)), Bool.false_and]
                  · exact hNq.out m (by omega)
                clear h47 hNq
                go_wp2_with fail
                go_roundw
                case rel => exact ⟨q + 1, hqs, by go_num, HN2.out, trivial⟩
                case measure => simp [intOf]; omega
            · have hqz : ¬ (q : Int) < (f.1.size : Int) := by omega
              have HN3 : Hid (∀ g ∈ fs.take (j + 1), ∀ q, q < g.1.size → dirAt (fs.map Prod.fst) g.1 q = false) := fun g hg => by
                rw [take_snoc HF.out] at hg
                rcases List.mem_append.1 hg with hg | hg
                · exact hNo.out g hg
                · rw [List.mem_singleton.1 hg]; exact fun m hm => hNq.out m (by omega)
              clear hNq hNo
              go_wp2_with fail
              go_roundw
              case rel => exact ⟨j + 1, hjn, by go_num, HN3.out, HB2.out⟩
              case measure => simp [intOf]; omega
        · have hjz : ¬ (j : Int) < (n : Int) := by omega
          have HE : Hid (TckR fs 0) := .inr (.inr ⟨by rw [HL.out]; omega, HZ.out, .inr ⟨(fun h => by
            obtain ⟨f, hf, q, hq, hd⟩ := h
            have := hNo.out f (by rw [List.take_of_length_le (by rw [HL.out]; omega)]; exact hf) q hq
            rw [this] at hd; cases hd), rfl⟩⟩)
          clear hNo
          go_wp2_with fail
          go_ret
          exact ⟨0, rfl, HE.out, HBE.out.trans (hBj.out.mono (by omega))⟩
end Go.Proofs.YtddlohbhchjjhaaGreatDoor

namespace Go.Proofs.YtddlohbhchjjhaaGreatDoor
open Go.RowKit Go.Maps

theorem strs_sn1 (l : List ByteArray) (x : ByteArray) : strs (l ++ [x]) = strs l ++ [.string x] := by simp [strs]
theorem findT_pas {ts : List Tg} {s : ByteArray} {k : Nat} {t : Tg} (h : findT (ts.take k) s = none) (ht : ts[k]? = some t) (hs : t.lab ≠ s) : findT (ts.take (k + 1)) s = none := by
  rw [take_snoc ht, findT_snoc, h]; simp [hs]
def posI : List Tg → ByteArray → Int
  | [], _ => -1
  | t :: ts, s => if t.lab = s then 0 else if posI ts s < 0 then -1 else posI ts s + 1
theorem posI_neg : ∀ (ts : List Tg) (s : ByteArray), posI ts s < 0 → posI ts s = -1
  | [], _, _ => rfl
  | t :: ts, s, h => by
    simp only [posI] at h ⊢
    split at h
    · omega
    · split at h
      · rename_i h1 h2; rw [if_neg h1, if_pos h2]
      · omega
theorem posI_none : ∀ {ts : List Tg} {s : ByteArray}, findT ts s = none → posI ts s = -1
  | [], _, _ => rfl
  | t :: ts, s, h => by
    simp only [findT] at h
    by_cases e : t.lab = s
    · rw [if_pos e] at h; cases h
    · rw [if_neg e] at h
      simp only [posI, if_neg e, posI_none h]
      simp
theorem posI_some : ∀ {ts : List Tg} {s : ByteArray} {t : Tg}, findT ts s = some t → ∃ k : Nat, posI ts s = k ∧ ts[k]? = some t
  | [], _, _, h => by cases h
  | r :: ts, s, t, h => by
    simp only [findT] at h
    by_cases e : r.lab = s
    · rw [if_pos e] at h; cases h
      exact ⟨0, by simp [posI, e], rfl⟩
    · rw [if_neg e] at h
      obtain ⟨k, h1, h2⟩ := posI_some h
      exact ⟨k + 1, by simp only [posI, if_neg e, h1]; rw [if_neg (by omega)]; omega, by simpa using h2⟩
theorem posI_isT (ts : List Tg) (s : ByteArray) : isT ts s = decide (0 ≤ posI ts s) := by
  unfold isT
  cases hf : findT ts s with
  | none => rw [posI_none hf]; rfl
  | some t => obtain ⟨k, h1, _⟩ := posI_some hf; rw [h1]; simp
theorem posI_here : ∀ {ts : List Tg} {s : ByteArray} {k : Nat} {t : Tg}, findT (ts.take k) s = none → ts[k]? = some t → t.lab = s → posI ts s = k
  | [], _, _, _, _, h, _ => by simp at h
  | r :: ts, s, 0, t, _, h, e => by simp at h; subst h; simp [posI, e]
  | r :: ts, s, k + 1, t, h0, h, e => by
    simp only [List.take_succ_cons, findT] at h0
    by_cases e' : r.lab = s
    · rw [if_pos e'] at h0; cases h0
    · rw [if_neg e'] at h0
      simp only [posI, if_neg e', posI_here h0 (by simpa using h) e]
      rw [if_neg (by omega)]; omega

set_option maxRecDepth 100000 in
set_option maxHeartbeats 1000000 in
theorem rfind_any (A : Option Addr) (n c B : Nat) (ts : List Tg) (lab : ByteArray) (w : World) (h0 : Sl w B 4 A n (flat tgC ts)) (hn : n ≤ 9223372036854775807) :
    Calls Tryz.prog 68 #[.slice A n c, .string lab] w fun e w' => e = .returned (.int .i64 (posI ts lab)) ∧ w = w' := by
  have HL := Lib.hid (h0.len tgC_len (by omega))
  have H0 := Lib.hid h0
  clear h0
  go_enter Tryz.func68, Tryz.ntmps68
  go_wp2
  go_loop [5] (fun i => ∃ k : Nat, k ≤ n ∧ i = .int .i64 k ∧ Hid (findT (ts.take k) lab = none)) (fun i => n - (intOf i).toNat)
  case atStart => exact ⟨0, Nat.zero_le _, rfl, rfl⟩
  case round =>
    obtain ⟨k, hk, rfl, hF⟩ := hrel
    by_cases hlt : k < n
    · obtain ⟨bb, off, t, rfl, hbB, ht, y0, y1, y2, y3⟩ := H0.out.tg hlt
      have hlz : (k : Int) < (n : Int) := by omega
      by_cases e : t.lab = lab
      · have HE := Lib.hid (posI_here hF.out ht e)
        have hse := str_dec t.lab lab
        rw [decide_eq_true e] at hse
        clear e ht
        go_wp2
        go_ret
        exact ⟨ret_int HE.out.symm, rfl⟩
      · have HE := Lib.hid (findT_pas hF.out ht e)
        have hse := str_dec t.lab lab
        rw [decide_eq_false e] at hse
        clear e ht
        go_wp2
        go_round
        case rel => exact ⟨k + 1, by omega, by go_num, HE.out⟩
        case measure => simp [intOf]; omega
    · have hlz : ¬ (k : Int) < (n : Int) := by omega
      have h1 := hF.out
      rw [List.take_of_length_le (by rw [HL.out]; omega)] at h1
      have HE := Lib.hid (posI_none h1)
      clear h1
      go_wp2
      go_ret
      exact ⟨ret_int HE.out.symm, rfl⟩
theorem memB_snoc (l : List ByteArray) (y x : ByteArray) : memB (l ++ [y]) x = (memB l x || decide (y = x)) := by simp [memB]
theorem memB_take {l : List ByteArray} {k : Nat} {x y : ByteArray} (h : memB (l.take k) x = false) (hy : l[k]? = some y) (e : y ≠ x) : memB (l.take (k + 1)) x = false := by
  rw [take_snoc hy, memB_snoc, h]; simp [e]
theorem memB_here {l : List ByteArray} {k n : Nat} {x y : ByteArray} (hy : l[k]? = some y) (hk : k < n) (e : y = x) : memB (l.take n) x = true := by
  rw [memB_iff, ← e]
  exact List.mem_of_getElem? (i := k) (by rw [List.getElem?_take, if_pos hk]; exact hy)
set_option maxRecDepth 100000 in
set_option maxHeartbeats 1000000 in
theorem rhas_any (A : Option Addr) (n m c B : Nat) (l : List ByteArray) (x : ByteArray) (w : World) (h0 : Sl w B 1 A m (strs l)) (hnm : n ≤ m) (hn : m ≤ 9223372036854775807) :
    Calls Tryz.prog 73 #[.slice A n c, .string x] w fun e w' => e = .returned (.bool (memB (l.take n) x)) ∧ w = w' := by
  have H0 := Lib.hid h0
  clear h0
  go_enter Tryz.func73, Tryz.ntmps73
  go_wp2
  go_loop [5] (fun i => ∃ k : Nat, k ≤ n ∧ i = .int .i64 k ∧ Hid (memB (l.take k) x = false)) (fun i => n - (intOf i).toNat)
  case atStart => exact ⟨0, Nat.zero_le _, rfl, rfl⟩
  case round =>
    obtain ⟨k, hk, rfl, hF⟩ := hrel
    by_cases hlt : k < n
    · obtain ⟨bb, off, y, rfl, hbB, ht, y0⟩ := H0.out.str_at (show k < m by omega)
      have hlz : (k : Int) < (n : Int) := by omega
      have hse := str_dec y x
      by_cases e : y = x
      · have HE := Lib.hid (memB_here ht hlt e)
        rw [decide_eq_true e] at hse
        clear e ht
        go_wp2
        go_ret
        exact ⟨ret_bool HE.out.symm, rfl⟩
      · have HE := Lib.hid (memB_take hF.out ht e)
        rw [decide_eq_false e] at hse
        clear e ht
        go_wp2
        go_round
        case rel => exact ⟨k + 1, by omega, by go_num, HE.out⟩
        case measure => simp [intOf]; omega
    · have hlz : ¬ (k : Int) < (n : Int) := by omega
      obtain rfl : n = k := by omega
      go_wp2
      go_ret
      exact ⟨ret_bool hF.out.symm, rfl⟩
end Go.Proofs.YtddlohbhchjjhaaGreatDoor

namespace Go.Proofs.YtddlohbhchjjhaaGreatDoor
open Go.RowKit Go.Maps

theorem posS_at : ∀ {l : List ByteArray} {s : ByteArray} {k : Nat}, (∀ y ∈ l.take k, less y s = true) → k ≤ l.length → (k = l.length ∨ ∃ y, l[k]? = some y ∧ less y s = false) → posS l s = k
  | [], s, k, _, h, _ => by simp at h; simp [posS, h]
  | r :: l, s, 0, _, _, h => by
    rcases h with h | ⟨y, hy, h⟩
    · simp at h
    · simp at hy; subst hy; simp [posS, h]
  | r :: l, s, k + 1, h1, h2, h3 => by
    have hr := h1 r (by simp)
    simp only [posS, hr, if_true]
    rw [posS_at (k := k) (fun y hy => h1 y (by simp [hy])) (by simp at h2; omega) (by
      rcases h3 with h3 | ⟨y, hy, h3⟩
      · left; simp at h3; omega
      · right; exact ⟨y, by simpa using hy, h3⟩)]
theorem strs_take (l : List ByteArray) (k : Nat) : strs (l.take k) = (strs l).take k := by simp [strs]
theorem strs_drop (l : List ByteArray) (k : Nat) : strs (l.drop k) = (strs l).drop k := by simp [strs]
theorem Sl.strs_take {w : World} {B n k : Nat} {A : Option Addr} {l : List ByteArray} (h : Sl w B 1 A n (strs l)) (hk : k ≤ n) : Sl w B 1 A k (strs (l.take k)) := by
  have hl : l.length = n := by have := h.1; rw [strs_len] at this; omega
  refine ⟨by rw [strs_len, List.length_take]; omega, fun hk0 => ?_⟩
  obtain ⟨b, off, e, hb, hc⟩ := h.2 (by omega)
  refine ⟨b, off, e, hb, fun j u hu => hc j u ?_⟩
  rw [_root_.Go.Proofs.YtddlohbhchjjhaaGreatDoor.strs_take, List.getElem?_take] at hu
  split at hu
  · exact hu
  · cases hu
theorem strs_one (l : List ByteArray) : ∀ u ∈ strs l, u.oneCell' = true := fun u hu => by
  obtain ⟨x, _, rfl⟩ := List.mem_map.1 hu; rfl
theorem strs_app (l m : List ByteArray) : strs (l ++ m) = strs l ++ strs m := by simp [strs]
theorem Apd.fresh {w : World} {base size n c : Nat} {e : TypeId} {A : Option Addr} {xs : List Value} (h : Apd w base e size A n c xs) (hn : 0 < n) : ∀ q, A = some q → base ≤ q.block := fun q hq => by
  rcases h with h | ⟨h, _⟩
  · rcases h.2 with ⟨hv, _⟩ | ⟨g, cap, cur, hv, h1, _⟩
    · simp only [Value.slice.injEq] at hv; rw [hv.1] at hq; cases hq
    · simp only [Value.slice.injEq] at hv; rw [hv.1] at hq; cases hq; exact h1
  · omega
def InsEnd (l : List ByteArray) (s : ByteArray) (w : World) (e : Ending) (w' : World) : Prop :=
  ∃ A' c', e = .returned (.slice A' (insS l s).length c') ∧ Sl w' w'.heap.size 1 A' (insS l s).length (strs (insS l s)) ∧ (insS l s).length ≤ c' ∧ c' ≤ maxLen ∧ Below w.heap.size w w' ∧ (s ∉ l → ∀ q, A' = some q → w.heap.size ≤ q.block)

set_option maxRecDepth 100000 in
set_option maxHeartbeats 4000000 in
theorem rinsert_any (A : Option Addr) (n c B : Nat) (l : List ByteArray) (s : ByteArray) (w : World) (h0 : Sl w B 1 A n (strs l)) (hB : B ≤ w.heap.size) (hnc : n ≤ c) (hcm : c ≤ maxLen) (hn : n ≤ 1000000) :
    Calls Tryz.prog 78 #[.slice A n c, .string s] w (InsEnd l s w) := by
  have HL : Hid (l.length = n) := by have := h0.1; rw [strs_len] at this; show _ = _; omega
  have H0 := Lib.hid h0; have HCM := Lib.hid hcm
  clear h0 hcm
  obtain ⟨i0, hi, hz0, hz1, hz2⟩ := info_parts infoStr
  have Hi := Lib.hid hi; have Hz0 := Lib.hid hz0; have Hz1 := Lib.hid hz1; have Hz2 := Lib.hid hz2
  clear hi hz0 hz1 hz2
  go_enter Tryz.func78, Tryz.ntmps78
  go_wp2
  go_loop [5] (fun i => ∃ k : Nat, k ≤ n ∧ i = .int .i64 k ∧ Hid (∀ y ∈ l.take k, less y s = true)) (fun i => n - (intOf i).toNat)
  case atStart => exact ⟨0, Nat.zero_le _, rfl, by simp [Hid]⟩
  case round =>
    obtain ⟨k, hk, rfl, hall⟩ := hrel
    have tk := run_slice_to (P := Tryz.prog) 33 i0 Tryz.underlying33 Hi.out A n c k (by omega)
    by_cases hlt : k < n
    · obtain ⟨b, off, y, rfl, hbB, hy, x0⟩ := H0.out.str_at hlt
      have hlz : (k : Int) < (n : Int) := by omega
      have HY := Lib.hid hy
      clear hy
      have t1 := less_str y s
      cases hl : less y s with
      | true =>
        rw [hl] at t1
        have hnx : Hid (∀ q ∈ l.take (k + 1), less q s = true) := by
          intro q hq
          rw [take_snoc HY.out] at hq
          rcases List.mem_append.1 hq with h | h
          · exact hall.out q h
          · rw [List.mem_singleton.1 h]; exact hl
        clear hl
        go_wp2
        go_round
        case rel => exact ⟨k + 1, by omega, by go_num, hnx⟩
        case measure => simp [intOf]; omega
      | false =>
        rw [hl] at t1
        have HP : Hid (posS l s = k) := posS_at hall.out (by rw [HL.out]; exact hk) (.inr ⟨y, HY.out, hl⟩)
        clear hl
        have t2 := str_dec y s
        by_cases he : y = s
        · have HE : Hid (insS l s = l) := insS_has (by rw [HP.out, HY.out, he])
          have HE2 : Hid (s ∈ l) := by show _ ∈ _; rw [← he]; exact List.mem_of_getElem? HY.out
          rw [decide_eq_true he] at t2
          clear he
          go_wp2
          go_ret
          refine ⟨some ⟨b, off, none⟩, c, ?_, ?_, ?_, HCM.out, Below.refl _ _, fun h => absurd (HE2.out) h⟩
          · rw [HE.out, HL.out]; rfl
          · rw [HE.out, HL.out]; exact H0.out.more hB
          · rw [HE.out, HL.out]; exact hnc
        · have HNE : Hid (l[k]? ≠ some s) := by show _ ≠ _; rw [HY.out]; intro h; cases h; exact he rfl
          rw [decide_eq_false he] at t2
          clear he
          obtain ⟨Ak, hAr, hAk⟩ := run_slice_from (P := Tryz.prog) 33 i0 Tryz.underlying33 Hi.out Hz1.out (some ⟨b, off, none⟩) n c k hk hnc
          have HAk := Lib.hid hAk
          clear hAk
          go_wp2_with (at_builtin; refine halt_ ?_)
          refine unhalt ?_
          refine wpList_append_apd (base := w.heap.size) (size := 1) _ rfl (.tmp 34) (.tmp 37) 33 rfl 9 i0 _ 16 Tryz.underlying33 Hi.out Hz0.out Hz1.out Hz2.out rfl (by decide) _ 0 0 [] rfl (.inr ⟨rfl, rfl, rfl⟩) B _ k _ (strs (l.take k)) rfl ?hs1x (strs_one _) ?b1x ?b2x ?b3x ?_
          case hs1x => exact (H0.out.strs_take hk).alloc hB _
          case b1x => unfold maxLen; omega
          case b2x => omega
          case b3x => simp
          intro A1 c1 w1 ha1 hb1 hc1 hm1 _
          simp only [Nat.zero_add, List.nil_append] at ha1
          rw [Nat.zero_add]
          have HA1 := Lib.hid ha1
          have HB1 : Hid (Below w.heap.size w w1) := ((Below.refl _ w).alloc (Nat.le_refl _) _).trans hb1
          clear ha1 hb1 hc1 hm1
          go_wp2_with (at_builtin; refine halt_ ?_)
          refine unhalt ?_
          refine wpList_append_apd (base := w.heap.size) (size := 1) _ rfl (.tmp 39) (.tmp 41) 33 rfl 9 i0 _ 16 Tryz.underlying33 Hi.out Hz0.out Hz1.out Hz2.out rfl (by decide) A1 k c1 (strs (l.take k)) rfl ?ow2x (w1.heap.size + 1) _ 1 _ [.string s] rfl ?hs2x (by simp [Value.oneCell']) ?b4x ?b5x ?b6x ?_
          case ow2x => exact HA1.out.below ((Below.refl _ w1).alloc (Nat.le_refl _) _)
          case hs2x => exact ⟨rfl, fun _ => ⟨w1.heap.size, 0, rfl, Nat.lt_succ_self _, fun j u hu => by have := new_cell w1 9 s j u hu; rwa [Addr.add_lit] at this⟩⟩
          case b4x => unfold maxLen; omega
          case b5x => omega
          case b6x => have := HB1.out.size; simp; omega
          intro A2 c2 w2 ha2 hb2 hc2 hm2 _
          have HA2 := Lib.hid ha2
          have HB2 : Hid (Below w.heap.size w w2) := (HB1.out.alloc HB1.out.size _).trans hb2
          clear ha2 hb2 hc2 hm2
          go_wp2_with (at_builtin; refine halt_ ?_)
          refine unhalt ?_
          refine wpList_append_apd (base := w.heap.size) (size := 1) _ rfl (.tmp 43) (.tmp 46) 33 rfl 9 i0 _ 16 Tryz.underlying33 Hi.out Hz0.out Hz1.out Hz2.out rfl (by decide) A2 (k + 1) c2 (strs (l.take k) ++ [.string s]) rfl HA2.out B Ak (n - k) (c - k) (strs (l.drop k)) rfl ?hs3x (strs_one _) ?b7x ?b8x ?b9x ?_
          case hs3x => rw [strs_drop]; have := HAk.out w2 B _ (H0.out.below HB2.out hB); rwa [Nat.mul_one] at this
          case b7x => unfold maxLen; omega
          case b8x => omega
          case b9x => exact HB2.out.size
          intro A3 c3 w3 ha3 hb3 hc3 hm3 _
          have HE : Hid (insS l s = l.take k ++ [s] ++ l.drop k) := by
            have := insS_new (l := l) (s := s) (by rw [HP.out]; exact HNE.out)
            rw [HP.out] at this; exact this
          have HEL : Hid ((insS l s).length = k + 1 + (n - k)) := by
            show _ = _
            rw [HE.out]; simp [HL.out]; omega
          have HS3 : Hid (Sl w3 w3.heap.size 1 A3 (insS l s).length (strs (insS l s))) := by
            show Sl _ _ _ _ _ _
            rw [HEL.out, HE.out, strs_app, strs_app]; exact ha3.sl
          have HB3 : Hid (Below w.heap.size w w3) := HB2.out.trans hb3
          have HFR := Lib.hid (ha3.fresh (by omega))
          clear ha3 hb3
          go_wp2
          go_ret
          rw [← HEL.out] at hc3 ⊢
          exact ⟨A3, c3, rfl, HS3.out, hc3, hm3, HB3.out, fun _ => HFR.out⟩
    · have hlz : ¬ (k : Int) < (n : Int) := by omega
      have HP : Hid (posS l s = k) := posS_at hall.out (by rw [HL.out]; exact hk) (.inl (by rw [HL.out]; omega))
      have HNE : Hid (l[k]? ≠ some s) := by show _ ≠ _; rw [List.getElem?_eq_none (by rw [HL.out]; omega)]; intro h; cases h
      obtain ⟨Ak, hAr, hAk⟩ := run_slice_from (P := Tryz.prog) 33 i0 Tryz.underlying33 Hi.out Hz1.out A n c k hk hnc
      have HAk := Lib.hid hAk
      clear hAk
      go_wp2_with (at_builtin; refine halt_ ?_)
      refine unhalt ?_
      refine wpList_append_apd (base := w.heap.size) (size := 1) _ rfl (.tmp 34) (.tmp 37) 33 rfl 9 i0 _ 16 Tryz.underlying33 Hi.out Hz0.out Hz1.out Hz2.out rfl (by decide) _ 0 0 [] rfl (.inr ⟨rfl, rfl, rfl⟩) B _ k _ (strs (l.take k)) rfl ?hs1y (strs_one _) ?b1y ?b2y ?b3y ?_
      case hs1y => exact (H0.out.strs_take hk).alloc hB _
      case b1y => unfold maxLen; omega
      case b2y => omega
      case b3y => simp
      intro A1 c1 w1 ha1 hb1 hc1 hm1 _
      simp only [Nat.zero_add, List.nil_append] at ha1
      rw [Nat.zero_add]
      have HA1 := Lib.hid ha1
      have HB1 : Hid (Below w.heap.size w w1) := ((Below.refl _ w).alloc (Nat.le_refl _) _).trans hb1
      clear ha1 hb1 hc1 hm1
      go_wp2_with (at_builtin; refine halt_ ?_)
      refine unhalt ?_
      refine wpList_append_apd (base := w.heap.size) (size := 1) _ rfl (.tmp 39) (.tmp 41) 33 rfl 9 i0 _ 16 Tryz.underlying33 Hi.out Hz0.out Hz1.out Hz2.out rfl (by decide) A1 k c1 (strs (l.take k)) rfl ?ow2y (w1.heap.size + 1) _ 1 _ [.string s] rfl ?hs2y (by simp [Value.oneCell']) ?b4y ?b5y ?b6y ?_
      case ow2y => exact HA1.out.below ((Below.refl _ w1).alloc (Nat.le_refl _) _)
      case hs2y => exact ⟨rfl, fun _ => ⟨w1.heap.size, 0, rfl, Nat.lt_succ_self _, fun j u hu => by have := new_cell w1 9 s j u hu; rwa [Addr.add_lit] at this⟩⟩
      case b4y => unfold maxLen; omega
      case b5y => omega
      case b6y => have := HB1.out.size; simp; omega
      intro A2 c2 w2 ha2 hb2 hc2 hm2 _
      have HA2 := Lib.hid ha2
      have HB2 : Hid (Below w.heap.size w w2) := (HB1.out.alloc HB1.out.size _).trans hb2
      clear ha2 hb2 hc2 hm2
      go_wp2_with (at_builtin; refine halt_ ?_)
      refine unhalt ?_
      refine wpList_append_apd (base := w.heap.size) (size := 1) _ rfl (.tmp 43) (.tmp 46) 33 rfl 9 i0 _ 16 Tryz.underlying33 Hi.out Hz0.out Hz1.out Hz2.out rfl (by decide) A2 (k + 1) c2 (strs (l.take k) ++ [.string s]) rfl HA2.out B Ak (n - k) (c - k) (strs (l.drop k)) rfl ?hs3y (strs_one _) ?b7y ?b8y ?b9y ?_
      case hs3y => rw [strs_drop]; have := HAk.out w2 B _ (H0.out.below HB2.out hB); rwa [Nat.mul_one] at this
      case b7y => unfold maxLen; omega
      case b8y => omega
      case b9y => exact HB2.out.size
      intro A3 c3 w3 ha3 hb3 hc3 hm3 _
      have HE : Hid (insS l s = l.take k ++ [s] ++ l.drop k) := by
        have := insS_new (l := l) (s := s) (by rw [HP.out]; exact HNE.out)
        rw [HP.out] at this; exact this
      have HEL : Hid ((insS l s).length = k + 1 + (n - k)) := by
        show _ = _
        rw [HE.out]; simp [HL.out]; omega
      have HS3 : Hid (Sl w3 w3.heap.size 1 A3 (insS l s).length (strs (insS l s))) := by
        show Sl _ _ _ _ _ _
        rw [HEL.out, HE.out, strs_app, strs_app]; exact ha3.sl
      have HB3 : Hid (Below w.heap.size w w3) := HB2.out.trans hb3
      have HFR := Lib.hid (ha3.fresh (by omega))
      clear ha3 hb3
      go_wp2
      go_ret
      rw [← HEL.out] at hc3 ⊢
      exact ⟨A3, c3, rfl, HS3.out, hc3, hm3, HB3.out, fun _ => HFR.out⟩
end Go.Proofs.YtddlohbhchjjhaaGreatDoor

namespace Go.Proofs.YtddlohbhchjjhaaGreatDoor
open Go.RowKit Go.Maps

def slen : Value → Nat
  | .slice _ n _ => n
  | _ => 0
def SrA (ts : List Tg) (s : ByteArray) (out todo : List ByteArray) : Prop := Asc out ∧ ∃ met, Srch (nxT ts) s met todo ∧ ∀ x, x ∈ out ↔ x ∈ met
def LkA (ts : List Tg) (s : ByteArray) (out todo : List ByteArray) (p : ByteArray) (ys : List ByteArray) : Prop := Asc out ∧ ∃ met, Look (nxT ts) s met todo p ys ∧ ∀ x, x ∈ out ↔ x ∈ met
theorem SrA.start (ts : List Tg) (s : ByteArray) : SrA ts s [] [s] := ⟨List.Pairwise.nil, [], Srch.start _ _, fun _ => Iff.rfl⟩
theorem SrA.end_ {ts : List Tg} {s : ByteArray} {out : List ByteArray} (h : SrA ts s out []) (x : ByteArray) : x ∈ out ↔ Rch (nxT ts) s x := by
  obtain ⟨_, met, h1, h2⟩ := h
  exact (h2 x).trans (h1.end_ x)
theorem SrA.len {ts : List Tg} {s : ByteArray} {out todo : List ByteArray} (h : SrA ts s out todo) : out.length ≤ ts.length := by
  obtain ⟨h0, met, h1, h2⟩ := h
  have := nodup_len out (ts.map Tg.lab) h0.nodup (fun x hx => (isT_iff ts x).1 (rch_isT (h1.sound x ((h2 x).1 hx))))
  rwa [List.length_map] at this
theorem LkA.len {ts : List Tg} {s p : ByteArray} {out todo ys : List ByteArray} (h : LkA ts s out todo p ys) : out.length ≤ ts.length := by
  obtain ⟨h0, met, h1, h2⟩ := h
  have := nodup_len out (ts.map Tg.lab) h0.nodup (fun x hx => (isT_iff ts x).1 (rch_isT (h1.sound x ((h2 x).1 hx))))
  rwa [List.length_map] at this
theorem SrA.look {ts : List Tg} {s p : ByteArray} {out todo : List ByteArray} (h : SrA ts s out (p :: todo)) : LkA ts s out todo p (nxT ts p) := by
  obtain ⟨h0, met, h1, h2⟩ := h
  exact ⟨h0, met, h1.look, h2⟩
theorem LkA.close {ts : List Tg} {s p : ByteArray} {out todo : List ByteArray} (h : LkA ts s out todo p []) : SrA ts s out todo := by
  obtain ⟨h0, met, h1, h2⟩ := h
  exact ⟨h0, met, h1.close, h2⟩
theorem LkA.skip {ts : List Tg} {s p y : ByteArray} {out todo ys : List ByteArray} (h : LkA ts s out todo p (y :: ys)) (hy : y ∈ out) : LkA ts s out todo p ys := by
  obtain ⟨h0, met, h1, h2⟩ := h
  exact ⟨h0, met, h1.skip ((h2 y).1 hy), h2⟩
theorem LkA.take {ts : List Tg} {s p y : ByteArray} {out todo ys : List ByteArray} (h : LkA ts s out todo p (y :: ys)) (hy : y ∉ out) : LkA ts s (insS out y) (todo ++ [y]) p ys := by
  obtain ⟨h0, met, h1, h2⟩ := h
  refine ⟨asc_insS y h0, met ++ [y], h1.take (fun hm => hy ((h2 y).2 hm)), fun x => ?_⟩
  rw [mem_insS, List.mem_append, List.mem_singleton, h2 x]
theorem insS_len {l : List ByteArray} {s : ByteArray} (h : s ∉ l) : (insS l s).length = l.length + 1 := by
  rw [insS_new (fun e => h (List.mem_of_getElem? e))]
  have := posS_le l s
  simp; omega
theorem nxT_some {ts : List Tg} {p : ByteArray} {t : Tg} (h : findT ts p = some t) : nxT ts p = t.deps.filter (isT ts) := by unfold nxT; rw [h]
theorem nxT_no {ts : List Tg} {p : ByteArray} (h : findT ts p = none) : nxT ts p = [] := by unfold nxT; rw [h]
theorem drop_get {l : List ByteArray} {k : Nat} {x : ByteArray} (h : l[k]? = some x) : l.drop k = x :: l.drop (k + 1) := by
  have := List.getElem?_eq_some_iff.1 h
  rw [← this.2, List.getElem_cons_drop]

set_option maxRecDepth 100000 in
set_option maxHeartbeats 4000000 in
theorem rreach_any (A : Option Addr) (n c B : Nat) (ts : List Tg) (lab : ByteArray) (w : World) (h0 : Sl w B 4 A n (flat tgC ts)) (hok : ∀ t ∈ ts, TgOk w B t) (hB : B ≤ w.heap.size) (hn : n ≤ 1000) :
    Calls Tryz.prog 75 #[.slice A n c, .string lab] w fun e w' => ∃ A' c' l, e = .returned (.slice A' l.length c') ∧ Sl w' w'.heap.size 1 A' l.length (strs l) ∧ l.length ≤ c' ∧ c' ≤ maxLen ∧ Below w.heap.size w w' ∧ Asc l ∧ l.length ≤ n ∧ ∀ x, x ∈ l ↔ Rch (nxT ts) lab x := by
  have HL := Lib.hid (h0.len tgC_len (by omega))
  have H0 := Lib.hid h0; have HOK := Lib.hid hok
  clear h0 hok
  obtain ⟨i0, hi, hz0, hz1, hz2⟩ := info_parts infoStr
  have Hi := Lib.hid hi; have Hz0 := Lib.hid hz0; have Hz1 := Lib.hid hz1; have Hz2 := Lib.hid hz2
  clear hi hz0 hz1 hz2
  go_enter Tryz.func75, Tryz.ntmps75
  go_wp2
  go_loopw [5, 6] (fun q5 q6 wr => ∃ A5 c5 A6 c6 out todo, q5 = .slice A5 out.length c5 ∧ q6 = .slice A6 todo.length c6 ∧ Hid (Sl wr wr.heap.size 1 A5 out.length (strs out)) ∧ Hid (Sl wr wr.heap.size 1 A6 todo.length (strs todo)) ∧ out.length ≤ c5 ∧ Hid (c5 ≤ maxLen) ∧ todo.length ≤ c6 ∧ Hid (c6 ≤ maxLen) ∧ Hid (SrA ts lab out todo) ∧ 2 * (n - out.length) + todo.length ≤ 2 * n + 1 ∧ Hid (Below w.heap.size w wr)) (fun q5 q6 _ => 2 * (n - slen q5) + slen q6)
  case atStart =>
    refine ⟨_, 0, _, 1, [], [lab], rfl, rfl, Sl.nil _ _ _ _, ?_, Nat.le_refl _, Nat.zero_le _, Nat.le_refl _, ?_, SrA.start _ _, by simp, ((Below.refl _ w).alloc (Nat.le_refl _) _).alloc (by simp) _⟩
    · refine ⟨rfl, fun _ => ⟨w.heap.size + 1, 0, rfl, by simp, fun j u hu => ?_⟩⟩
      have := new_cell (w.alloc (.cells #[] 9)) 9 lab j u hu
      rw [World.size_alloc, Addr.add_lit] at this; exact this
    · show 1 ≤ maxLen; unfold maxLen; omega
  case round =>
    obtain ⟨A5, c5, A6, c6, out, todo, rfl, rfl, hS5, hS6, hc5, hm5, hc6, hm6, hSr, hMz, hBel⟩ := hrel
    cases todo with
    | nil =>
      have HE := Lib.hid hSr.out.end_
      have HAs := Lib.hid hSr.out.1
      have HLn := Lib.hid hSr.out.len
      simp only [List.length_nil] at *
      go_wp2
      go_ret
      exact ⟨A5, c5, out, rfl, hS5.out, hc5, hm5.out, hBel.out, HAs.out, by rw [← HL.out]; exact HLn.out, HE.out⟩
    | cons p rest =>
      obtain ⟨b6, o6, p', rfl, hb6, hp', y6⟩ := hS6.out.str_at (k := 0) (by simp)
      simp at hp'
      subst hp'
      simp only [List.length_cons, Nat.add_zero] at *
      have hgt : (0 : Int) < ((rest.length + 1 : Nat) : Int) := by omega
      have hgt' : (0 : Int) < (rest.length : Int) + 1 := by omega
      obtain ⟨Ak, hAr, hAk⟩ := run_slice_from (P := Tryz.prog) 33 i0 Tryz.underlying33 Hi.out Hz1.out (some ⟨b6, o6, none⟩) (rest.length + 1) c6 1 (by omega) hc6
      have hAr' : ∀ w : World, (Instr.sliceAt 33 (.slice (some ⟨b6, o6, none⟩) (rest.length + 1) c6) (some (.int .i64 1)) none none).run Tryz.prog w = .ok (.slice Ak rest.length (c6 - 1)) w := hAr
      have HS6 : Hid (Sl wr wr.heap.size 1 Ak rest.length (strs rest)) := by
        have := hAk wr wr.heap.size _ hS6.out
        simpa [strs, Hid] using this
      have HLK := Lib.hid hSr.out.look
      have HFD := Lib.hid (rfind_any A n c B ts p wr (H0.out.below hBel.out hB) (by omega))
      clear hAk hAr hS6 hSr
      cases hf : findT ts p with
      | none =>
        have hp := posI_none hf
        rw [nxT_no hf] at HLK
        have HSR := Lib.hid HLK.out.close
        rw [hp] at HFD
        clear hf hp
        go_wp2_with (go_at_call 68; refine HFD.out.mono ?_; rintro e w1 ⟨rfl, rfl⟩)
        go_loopw [5, 6, 8] (fun q5 q6 q8 wi => q5 = .slice A5 out.length c5 ∧ q6 = .slice Ak rest.length (c6 - 1) ∧ q8 = .int .i64 0 ∧ wi = wr) (fun _ _ _ _ => 0)
        case atStart => exact ⟨rfl, rfl, rfl, rfl⟩
        case round =>
          obtain ⟨rfl, rfl, rfl, rfl⟩ := hrel
          go_wp2
          go_roundw
          case rel => exact ⟨A5, c5, Ak, c6 - 1, out, rest, rfl, rfl, hS5.out, HS6.out, hc5, hm5.out, by omega, Nat.le_trans (Nat.sub_le _ _) hm6.out, HSR.out, by omega, hBel.out⟩
          case measure => simp only [slen]; omega
      | some t =>
        obtain ⟨ki, hki, hti⟩ := posI_some hf
        have htm := List.mem_of_getElem? hti
        rw [nxT_some hf] at HLK
        rw [hki] at HFD
        have hkn : ki < n := by have := (List.getElem?_eq_some_iff.1 hti).1; rw [HL.out] at this; exact this
        have HTO := Lib.hid (HOK.out t htm)
        have HTI := Lib.hid hti
        have hdl : t.deps.length = t.dn := HTO.out.dlen
        have hdnm : t.dn ≤ 9223372036854775807 := by have h1 := HTO.out.dle; have h2 := HTO.out.dmax; unfold maxLen at h2; omega
        clear hf hki hti htm
        go_wp2_with (go_at_call 68; refine HFD.out.mono ?_; rintro e w1 ⟨rfl, rfl⟩)
        go_loopw [5, 6, 8] (fun q5 q6 q8 wi => ∃ (j : Nat) (A7 : Option Addr) (c7 : Nat) (A8 : Option Addr) (c8 : Nat) (out' todo' : List ByteArray), j ≤ t.dn ∧ q8 = .int .i64 j ∧ q5 = .slice A7 out'.length c7 ∧ q6 = .slice A8 todo'.length c8 ∧ Hid (Sl wi wi.heap.size 1 A7 out'.length (strs out')) ∧ Hid (Sl wi wi.heap.size 1 A8 todo'.length (strs todo')) ∧ out'.length ≤ c7 ∧ Hid (c7 ≤ maxLen) ∧ todo'.length ≤ c8 ∧ Hid (c8 ≤ maxLen) ∧ Hid (LkA ts lab out' todo' p ((t.deps.drop j).filter (isT ts))) ∧ 2 * (n - out'.length) + todo'.length ≤ 2 * (n - out.length) + rest.length ∧ Hid (Below w.heap.size w wi)) (fun _ _ q8 _ => t.dn - (intOf q8).toNat)
        case atStart => exact ⟨0, A5, c5, Ak, c6 - 1, out, rest, Nat.zero_le _, rfl, rfl, rfl, hS5.out, HS6.out, hc5, hm5.out, by omega, Nat.le_trans (Nat.sub_le _ _) hm6.out, HLK.out, Nat.le_refl _, hBel.out⟩
        case round =>
          obtain ⟨j, A7, c7, A8, c8, out', todo', hj, rfl, rfl, rfl, hS7, hS8, hc7, hm7, hc8, hm8, hLk, hM8, hBi⟩ := hrel
          obtain ⟨b, off, t', rfl, hbB, ht', y0, y1, y2, y3⟩ := (H0.out.below hBi.out hB).tg hkn
          rw [HTI.out] at ht'
          cases ht'
          have hkz : (ki : Int) < (n : Int) := by omega
          have hwi := hBi.out.size
          by_cases hlt : j < t.dn
          · obtain ⟨bd, od, d, hdA, hbd, hd, yd⟩ := (HTO.out.d.below hBi.out hB).str_at hlt
            have hjz : (j : Int) < (t.dn : Int) := by omega
            rw [hdA] at y2
            have HDG := Lib.hid (drop_get hd)
            have hds : d.size ≤ maxLen := HTO.out.ds d (List.mem_of_getElem? hd)
            have HFD2 := Lib.hid (rfind_any (some ⟨b, off, none⟩) n c B ts d wr (H0.out.below hBi.out hB) (by omega))
            clear hd hdA
            cases hs : isT ts d with
            | false =>
              have hp2 : posI ts d = -1 := posI_neg ts d (by rw [posI_isT] at hs; simpa using hs)
              rw [hp2] at HFD2
              have HLK2 : Hid (LkA ts lab out' todo' p ((t.deps.drop (j + 1)).filter (isT ts))) := by
                have := hLk.out
                rw [HDG.out, List.filter_cons, if_neg (by rw [hs]; simp)] at this
                exact this
              clear hs hp2
              go_wp2_with (go_at_call 68; refine HFD2.out.mono ?_; rintro e w1 ⟨rfl, rfl⟩)
              go_roundw
              case rel => exact ⟨j + 1, A7, c7, A8, c8, out', todo', by omega, by go_num, rfl, rfl, hS7.out, hS8.out, hc7, hm7.out, hc8, hm8.out, HLK2.out, hM8, hBi.out⟩
              case measure => simp [intOf]; omega
            | true =>
              obtain ⟨kd, hkd⟩ : ∃ kd : Nat, posI ts d = kd := by
                have : 0 ≤ posI ts d := by rw [posI_isT] at hs; simpa using hs
                exact ⟨(posI ts d).toNat, by omega⟩
              rw [hkd] at HFD2
              have HLK1 : Hid (LkA ts lab out' todo' p (d :: (t.deps.drop (j + 1)).filter (isT ts))) := by
                have := hLk.out
                rw [HDG.out, List.filter_cons, if_pos hs] at this
                exact this
              have hol : out'.length ≤ n := by have := hLk.out.len; rw [HL.out] at this; exact this
              have HHS := Lib.hid (rhas_any A7 out'.length out'.length c7 wr.heap.size out' d wr hS7.out (Nat.le_refl _) (by omega))
              rw [List.take_length] at HHS
              clear hs hkd
              cases hm : memB out' d with
              | true =>
                have HLK2 := Lib.hid (HLK1.out.skip ((memB_iff _ _).1 hm))
                rw [hm] at HHS
                clear hm
                go_wp2_with (first
                  | (go_at_call 68; refine HFD2.out.mono ?_; rintro e w1 ⟨rfl, rfl⟩)
                  | (go_at_call 73; refine HHS.out.mono ?_; rintro e w1 ⟨rfl, rfl⟩))
                go_roundw
                case rel => exact ⟨j + 1, A7, c7, A8, c8, out', todo', by omega, by go_num, rfl, rfl, hS7.out, hS8.out, hc7, hm7.out, hc8, hm8.out, HLK2.out, hM8, hBi.out⟩
                case measure => simp [intOf]; omega
              | false =>
                have hnm : d ∉ out' := fun h => by rw [(memB_iff _ _).2 h] at hm; cases hm
                have HLK2 := Lib.hid (HLK1.out.take hnm)
                have HIL := Lib.hid (insS_len hnm)
                have hol2 : out'.length + 1 ≤ n := by have := HLK2.out.len; rw [HIL.out, HL.out] at this; exact this
                rw [hm] at HHS
                have HIN := Lib.hid (rinsert_any A7 out'.length c7 wr.heap.size out' d wr hS7.out (Nat.le_refl _) hc7 hm7.out (by omega))
                clear hm hnm
                go_wp2_with (first
                  | (go_at_call 68; refine HFD2.out.mono ?_; rintro e w1 ⟨rfl, rfl⟩)
                  | (go_at_call 73; refine HHS.out.mono ?_; rintro e w1 ⟨rfl, rfl⟩)
                  | (go_at_call 78; refine HIN.out.mono ?_; rintro e w2 ⟨A9, c9, rfl, hS9, hc9, hm9, hb9, _⟩; refine halt_ ?_))
                refine unhalt ?_
                have HS9 := Lib.hid hS9; have HM9 := Lib.hid hm9; have HB9 := Lib.hid hb9
                have HS8 : Hid (Sl w2 w2.heap.size 1 A8 todo'.length (strs todo')) := (hS8.out.below hb9 (Nat.le_refl _)).more hb9.size
                have HBW : Hid (Below w.heap.size w w2) := hBi.out.trans (hb9.mono hwi)
                clear hS9 hm9 hb9 hS7 hS8
                have htl : todo'.length ≤ 4000 := by omega
                go_wp2_with (at_builtin; refine halt_ ?_)
                refine unhalt ?_
                refine wpList_append_apd (base := w2.heap.size) (size := 1) _ rfl (.tmp 58) (.tmp 59) 33 rfl 9 i0 _ 16 Tryz.underlying33 Hi.out Hz0.out Hz1.out Hz2.out rfl (by decide) _ 0 0 [] rfl (.inr ⟨rfl, rfl, rfl⟩) w2.heap.size A8 todo'.length c8 (strs todo') rfl ?hs1 (strs_one _) ?b1 ?b2 ?b3 ?_
                case hs1 => exact HS8.out.alloc (Nat.le_refl _) _
                case b1 => unfold maxLen; omega
                case b2 => omega
                case b3 => simp
                intro A1 c1 w3 ha1 hb1 hc1 hm1 _
                simp only [Nat.zero_add, List.nil_append] at ha1
                rw [Nat.zero_add]
                have HA1 := Lib.hid ha1
                have HB1 : Hid (Below w2.heap.size w2 w3) := ((Below.refl _ w2).alloc (Nat.le_refl _) _).trans hb1
                clear ha1 hb1 hc1 hm1
                go_wp2_with (at_builtin; refine halt_ ?_)
                refine unhalt ?_
                refine wpList_append_apd (base := w2.heap.size) (size := 1) _ rfl (.tmp 60) (.tmp 62) 33 rfl 9 i0 _ 16 Tryz.underlying33 Hi.out Hz0.out Hz1.out Hz2.out rfl (by decide) A1 todo'.length c1 (strs todo') rfl ?ow2 (w3.heap.size + 1) _ 1 _ [.string d] rfl ?hs2 (by simp [Value.oneCell']) ?b4 ?b5 ?b6 ?_
                case ow2 => exact HA1.out.below ((Below.refl _ w3).alloc (Nat.le_refl _) _)
                case hs2 => exact ⟨rfl, fun _ => ⟨w3.heap.size, 0, rfl, Nat.lt_succ_self _, fun j u hu => by have := new_cell w3 9 d j u hu; rwa [Addr.add_lit] at this⟩⟩
                case b4 => unfold maxLen; omega
                case b5 => omega
                case b6 => have := HB1.out.size; simp; omega
                intro A2 c2 w4 ha2 hb2 hc2 hm2 _
                have HA2 : Hid (Sl w4 w4.heap.size 1 A2 (todo' ++ [d]).length (strs (todo' ++ [d]))) := by
                  show Sl _ _ _ _ _ _
                  rw [strs_sn1, List.length_append]; exact ha2.sl
                have HM2 := Lib.hid hm2
                have HB2 : Hid (Below w2.heap.size w2 w4) := (HB1.out.alloc HB1.out.size _).trans hb2
                have hc2' : (todo' ++ [d]).length ≤ c2 := by rw [List.length_append]; exact hc2
                have htl2 : (todo' ++ [d]).length = todo'.length + 1 := by simp
                have HS9' : Hid (Sl w4 w4.heap.size 1 A9 (insS out' d).length (strs (insS out' d))) := (HS9.out.below HB2.out (Nat.le_refl _)).more HB2.out.size
                clear ha2 hb2 hm2 HS9 HS8
                go_wp2
                go_roundw
                case rel => exact ⟨j + 1, A9, c9, A2, c2, insS out' d, todo' ++ [d], by omega, by go_num, rfl, by rw [htl2], HS9'.out, HA2.out, hc9, HM9.out, hc2', HM2.out, HLK2.out, by rw [HIL.out]; omega, HBW.out.trans (HB2.out.mono HBW.out.size)⟩
                case measure => simp [intOf]; omega
          · have hjz : ¬ (j : Int) < (t.dn : Int) := by omega
            have HSR : Hid (SrA ts lab out' todo') := by
              have := hLk.out
              rw [List.drop_of_length_le (by omega)] at this
              exact this.close
            go_wp2
            go_roundw
            case rel => exact ⟨A7, c7, A8, c8, out', todo', rfl, rfl, hS7.out, hS8.out, hc7, hm7.out, hc8, hm8.out, HSR.out, by omega, hBi.out⟩
            case measure => simp only [slen]; omega
end Go.Proofs.YtddlohbhchjjhaaGreatDoor

namespace Go.Proofs.YtddlohbhchjjhaaGreatDoor
open Go.RowKit Go.Maps

def StpR (ts : List Tg) (a b : ByteArray) (r : Int) : Prop := (r = -1 ∧ ¬ Rch (nxT ts) a b) ∨ ∃ k : Nat, r = (k : Int) + 1 ∧ Dst (nxT ts) k a b
def LvA (ts : List Tg) (a b : ByteArray) (m : Nat) (seen now : List ByteArray) : Prop := Asc seen ∧ Lvl (nxT ts) a b m seen now
def MdA (ts : List Tg) (a b : ByteArray) (m s0 : Nat) (seen next : List ByteArray) (p : ByteArray) (ys xs : List ByteArray) : Prop := Asc seen ∧ Mid (nxT ts) a b m seen next p ys xs ∧ seen.length = s0 + next.length
def MjA (ts : List Tg) (a b : ByteArray) (m s0 : Nat) (seen next : List ByteArray) (now : List ByteArray) (j : Nat) : Prop :=
  (j = 0 ∧ LvA ts a b m seen now ∧ next = [] ∧ seen.length = s0) ∨ (0 < j ∧ ∃ p, MdA ts a b m s0 seen next p [] (now.drop j))
theorem asc_len {ts : List Tg} {seen : List ByteArray} {a : ByteArray} (h : Asc seen) (hs : ∀ x ∈ seen, Rch (nxT ts) a x) : seen.length ≤ ts.length := by
  have := nodup_len seen (ts.map Tg.lab) h.nodup (fun x hx => (isT_iff ts x).1 (rch_isT (hs x hx)))
  rwa [List.length_map] at this
theorem MjA.enter {ts : List Tg} {a b x : ByteArray} {m s0 j : Nat} {seen next now : List ByteArray} (h : MjA ts a b m s0 seen next now j) (hx : now[j]? = some x) : MdA ts a b m s0 seen next x (nxT ts x) (now.drop (j + 1)) := by
  rcases h with ⟨rfl, ⟨h1, h2⟩, rfl, h3⟩ | ⟨_, p, h1, h2, h3⟩
  · have e := drop_get hx
    rw [List.drop_zero] at e
    rw [e] at h2
    exact ⟨h1, h2.mid, by simpa using h3⟩
  · rw [drop_get hx] at h2
    exact ⟨h1, h2.on, h3⟩
theorem MdA.leave {ts : List Tg} {a b p : ByteArray} {m s0 j : Nat} {seen next now : List ByteArray} (h : MdA ts a b m s0 seen next p [] (now.drop (j + 1))) : MjA ts a b m s0 seen next now (j + 1) := .inr ⟨by omega, p, h⟩
theorem MjA.close {ts : List Tg} {a b : ByteArray} {m s0 j : Nat} {seen next now : List ByteArray} (h : MjA ts a b m s0 seen next now j) (hj : now.length ≤ j) (hn : 0 < now.length) : LvA ts a b (m + 1) seen next ∧ seen.length = s0 + next.length := by
  rcases h with ⟨rfl, _⟩ | ⟨_, p, h1, h2, h3⟩
  · omega
  · rw [List.drop_of_length_le hj] at h2
    exact ⟨⟨h1, h2.close⟩, h3⟩
theorem MdA.skip {ts : List Tg} {a b p y : ByteArray} {m s0 : Nat} {seen next ys xs : List ByteArray} (h : MdA ts a b m s0 seen next p (y :: ys) xs) (hy : y ∈ seen) : MdA ts a b m s0 seen next p ys xs := ⟨h.1, h.2.1.skip hy, h.2.2⟩
theorem MdA.take {ts : List Tg} {a b p y : ByteArray} {m s0 : Nat} {seen next ys xs : List ByteArray} (h : MdA ts a b m s0 seen next p (y :: ys) xs) (hb : y ≠ b) (hy : y ∉ seen) : MdA ts a b m s0 (insS seen y) (next ++ [y]) p ys xs :=
  ⟨asc_insS y h.1, h.2.1.take hb hy (fun x => mem_insS seen y x), by rw [insS_len hy, h.2.2, List.length_append]; simp; omega⟩
theorem MdA.len {ts : List Tg} {a b p : ByteArray} {m s0 : Nat} {seen next ys xs : List ByteArray} (h : MdA ts a b m s0 seen next p ys xs) : seen.length ≤ ts.length := asc_len h.1 h.2.1.sound

def Away (n : Nat) (A A' : Option Addr) : Prop := 0 < n → ∀ p q, A = some p → A' = some q → p.block ≠ q.block
theorem Sl.away {w w' : World} {B size n m c : Nat} {A A' : Option Addr} {xs : List Value} (h : Sl w B size A n xs) (hw : Away n A A') (hg : w.grownBy w' (Value.slice A' m c).ownBlock) (hB : B ≤ w.heap.size) : Sl w' B size A n xs := by
  refine ⟨h.1, fun hn => ?_⟩
  obtain ⟨b, off, rfl, hb, hc⟩ := h.2 hn
  refine ⟨b, off, rfl, hb, fun j u hu => (World.cell?_of_block (hg.block b (by omega) (fun e => ?_))).trans (hc j u hu)⟩
  cases A' with
  | none => cases e
  | some q =>
    have e' : b = q.block := by injection e
    exact hw hn _ q rfl rfl e'
theorem Away.new {w : World} {B size n g : Nat} {A : Option Addr} {xs : List Value} (h : Sl w B size A n xs) (hg : B ≤ g) : Away n A (some ⟨g, 0, none⟩) := fun hn p q hp hq => by
  obtain ⟨b, off, e, hb, _⟩ := h.2 hn
  rw [hp] at e; cases e; cases hq
  show b ≠ g; omega
theorem Away.on {w : World} {B size n g m c : Nat} {A A' : Option Addr} {xs : List Value} (ha : Away n A A') (h : Sl w B size A n xs) (hg : (Value.slice A' m c).ownBlock = some g ∨ g = B) : Away n A (some ⟨g, 0, none⟩) := fun hn p q hp hq => by
  rcases hg with hg | hg
  · cases A' with
    | none => cases hg
    | some q' =>
      have e : q'.block = g := by injection hg
      cases hq
      have := ha hn p q' hp rfl
      show p.block ≠ g
      rw [← e]; exact this
  · exact Away.new h (by omega) hn p q hp hq
theorem own_lt {w : World} {base size n c : Nat} {e : TypeId} {A : Option Addr} {xs : List Value} (h : w.ownsRow base e size (.slice A n c) n xs) : ∀ q, A = some q → q.block < w.heap.size := fun q hq => by
  rcases h.2 with ⟨hv, _⟩ | ⟨g, cap, cur, hv, _, h2, _⟩
  · simp only [Value.slice.injEq] at hv; rw [hv.1] at hq; cases hq
  · simp only [Value.slice.injEq] at hv; rw [hv.1] at hq; cases hq; exact (Array.getElem?_eq_some_iff.1 h2).1
theorem own_none (w : World) (e : TypeId) {base : Nat} (hb : base ≤ w.heap.size) : (w.alloc (.cells #[] e)).ownsRow base e 1 (.slice (some ⟨w.heap.size, 0, none⟩) 0 0) 0 [] :=
  ⟨rfl, .inr ⟨w.heap.size, 0, #[], rfl, hb, World.alloc_heap_new w _, Nat.le_refl _, Nat.zero_le _, rfl, rfl⟩⟩

set_option maxRecDepth 100000 in
set_option maxHeartbeats 8000000 in
theorem rsteps_any (A : Option Addr) (n c B : Nat) (ts : List Tg) (fr to : ByteArray) (w : World) (h0 : Sl w B 4 A n (flat tgC ts)) (hok : ∀ t ∈ ts, TgOk w B t) (hB : B ≤ w.heap.size) (hn : n ≤ 1000) :
    Calls Tryz.prog 67 #[.slice A n c, .string fr, .string to] w fun e w' => ∃ r, e = .returned (.int .i64 r) ∧ StpR ts fr to r ∧ r ≤ 2 * (n : Int) + 2 ∧ Below w.heap.size w w' := by
  have HL := Lib.hid (h0.len tgC_len (by omega))
  have H0 := Lib.hid h0; have HOK := Lib.hid hok
  clear h0 hok
  obtain ⟨i0, hi, hz0, hz1, hz2⟩ := info_parts infoStr
  have Hi := Lib.hid hi; have Hz0 := Lib.hid hz0; have Hz1 := Lib.hid hz1; have Hz2 := Lib.hid hz2
  clear hi hz0 hz1 hz2
  go_enter Tryz.func67, Tryz.ntmps67
  go_wp2
  go_loopw [7, 8, 9] (fun q7 q8 q9 wr => ∃ (m : Nat) (A7 : Option Addr) (c7 : Nat) (A8 : Option Addr) (c8 : Nat) (seen now : List ByteArray), q9 = .int .i64 ((m : Int) + 1) ∧ q7 = .slice A7 seen.length c7 ∧ q8 = .slice A8 now.length c8 ∧ Hid (Sl wr wr.heap.size 1 A7 seen.length (strs seen)) ∧ Hid (Sl wr wr.heap.size 1 A8 now.length (strs now)) ∧ seen.length ≤ c7 ∧ Hid (c7 ≤ maxLen) ∧ Hid (LvA ts fr to m seen now) ∧ m + (2 * (n - seen.length) + min now.length 1) ≤ 2 * n + 1 ∧ now.length ≤ 1000 ∧ Hid (Below w.heap.size w wr)) (fun q7 q8 _ _ => 2 * (n - slen q7) + min (slen q8) 1)
  case atStart =>
    refine ⟨0, _, 0, _, 1, [], [fr], rfl, rfl, rfl, Sl.nil _ _ _ _, ?_, Nat.le_refl _, Nat.zero_le _, ⟨List.Pairwise.nil, Lvl.start _ _ _⟩, by simp, by simp, ((Below.refl _ w).alloc (Nat.le_refl _) _).alloc (by simp) _⟩
    refine ⟨rfl, fun _ => ⟨w.heap.size + 1, 0, rfl, by simp, fun j u hu => ?_⟩⟩
    have := new_cell (w.alloc (.cells #[] 9)) 9 fr j u hu
    rw [World.size_alloc, Addr.add_lit] at this; exact this
  case round =>
    obtain ⟨m, A7, c7, A8, c8, seen, now, rfl, rfl, rfl, hS7, hS8, hc7, hm7, hLv, hM, hnl, hBel⟩ := hrel
    by_cases hpos : 0 < now.length
    · have hpz : (0 : Int) < (now.length : Int) := by omega
      have hwr := hBel.out.size
      have hsl : seen.length ≤ n := by have := asc_len hLv.out.1 hLv.out.2.sound; rw [HL.out] at this; exact this
      obtain ⟨W1, hW1⟩ : ∃ W1, wr.alloc (.cells #[] 9) = W1 := ⟨_, rfl⟩
      have HBa : Hid (Below w.heap.size w W1) := by rw [← hW1]; exact hBel.out.alloc hwr _
      have HSa7 : Hid (Sl W1 W1.heap.size 1 A7 seen.length (strs seen)) := by rw [← hW1]; exact (hS7.out.alloc (Nat.le_refl _) _).more (by simp)
      have HSa8 : Hid (Sl W1 W1.heap.size 1 A8 now.length (strs now)) := by rw [← hW1]; exact (hS8.out.alloc (Nat.le_refl _) _).more (by simp)
      have HON : Hid (W1.ownsRow w.heap.size 9 1 (.slice (some ⟨wr.heap.size, 0, none⟩) 0 0) 0 (strs [])) := by rw [← hW1]; exact own_none wr _ hwr
      have HAW7 : Hid (Away seen.length A7 (some ⟨wr.heap.size, 0, none⟩)) := Away.new hS7.out (Nat.le_refl _)
      have HAW8 : Hid (Away now.length A8 (some ⟨wr.heap.size, 0, none⟩)) := Away.new hS8.out (Nat.le_refl _)
      clear hS7 hS8
      go_wp2
      go_loopw [7, 10, 11] (fun q7 q10 q11 wi => ∃ (j : Nat) (A9 : Option Addr) (c9 : Nat) (A10 : Option Addr) (c10 : Nat) (seen' next : List ByteArray), j ≤ now.length ∧ q11 = .int .i64 j ∧ q7 = .slice A9 seen'.length c9 ∧ q10 = .slice A10 next.length c10 ∧ Hid (Sl wi wi.heap.size 1 A9 seen'.length (strs seen')) ∧ seen'.length ≤ c9 ∧ Hid (c9 ≤ maxLen) ∧ Hid (wi.ownsRow w.heap.size 9 1 (.slice A10 next.length c10) next.length (strs next)) ∧ Hid (Away seen'.length A9 A10) ∧ Hid (Away now.length A8 A10) ∧ Hid (Sl wi wi.heap.size 1 A8 now.length (strs now)) ∧ Hid (MjA ts fr to m seen.length seen' next now j) ∧ next.length ≤ 1000 ∧ Hid (Below w.heap.size w wi)) (fun _ _ q11 _ => now.length - (intOf q11).toNat)
      case atStart => exact ⟨0, A7, c7, _, 0, seen, [], Nat.zero_le _, rfl, rfl, rfl, HSa7.out, hc7, hm7.out, HON.out, HAW7.out, HAW8.out, HSa8.out, .inl ⟨rfl, hLv.out, rfl, rfl⟩, by simp, HBa.out⟩
      case round =>
        obtain ⟨j, A9, c9, A10, c10, seen', next, hj, rfl, rfl, rfl, hS9, hc9, hm9, hAp, hW7, hW8, hSn, hMj, hnx, hBi⟩ := hrel
        by_cases hjl : j < now.length
        · obtain ⟨b8, o8, p, rfl, hb8, hp, y8⟩ := hSn.out.str_at hjl
          have hjz : (j : Int) < (now.length : Int) := by omega
          have HMD := Lib.hid (hMj.out.enter hp)
          have HFD := Lib.hid (rfind_any A n c B ts p wr (H0.out.below hBi.out hB) (by omega))
          clear hMj hp
          cases hf : findT ts p with
          | none =>
            have hp := posI_none hf
            rw [nxT_no hf] at HMD
            rw [hp] at HFD
            clear hf hp
            go_wp2_with (go_at_call 68; refine HFD.out.mono ?_; rintro e w1 ⟨rfl, rfl⟩)
            go_loopw [7, 10, 13] (fun q7 q10 q13 wi => q7 = .slice A9 seen'.length c9 ∧ q10 = .slice A10 next.length c10 ∧ q13 = .int .i64 0 ∧ wi = wr) (fun _ _ _ _ => 0)
            case atStart => exact ⟨rfl, rfl, rfl, rfl⟩
            case round =>
              obtain ⟨rfl, rfl, rfl, rfl⟩ := hrel
              go_wp2
              go_roundw
              case rel => exact ⟨j + 1, A9, c9, A10, c10, seen', next, by omega, by go_num, rfl, rfl, hS9.out, hc9, hm9.out, hAp.out, hW7.out, hW8.out, hSn.out, HMD.out.leave, hnx, hBi.out⟩
              case measure => simp [intOf]; omega
          | some t =>
            obtain ⟨ki, hki, hti⟩ := posI_some hf
            have htm := List.mem_of_getElem? hti
            rw [nxT_some hf] at HMD
            rw [hki] at HFD
            have hkn : ki < n := by have := (List.getElem?_eq_some_iff.1 hti).1; rw [HL.out] at this; exact this
            have HTO := Lib.hid (HOK.out t htm)
            have HTI := Lib.hid hti
            have hdl : t.deps.length = t.dn := HTO.out.dlen
            have hdnm : t.dn ≤ 9223372036854775807 := by have h1 := HTO.out.dle; have h2 := HTO.out.dmax; unfold maxLen at h2; omega
            clear hf hki hti htm
            go_wp2_with (go_at_call 68; refine HFD.out.mono ?_; rintro e w1 ⟨rfl, rfl⟩)
            go_loopw [7, 10, 13] (fun q7 q10 q13 wi => ∃ (k : Nat) (A11 : Option Addr) (c11 : Nat) (A12 : Option Addr) (c12 : Nat) (seen2 next2 : List ByteArray), k ≤ t.dn ∧ q13 = .int .i64 k ∧ q7 = .slice A11 seen2.length c11 ∧ q10 = .slice A12 next2.length c12 ∧ Hid (Sl wi wi.heap.size 1 A11 seen2.length (strs seen2)) ∧ seen2.length ≤ c11 ∧ Hid (c11 ≤ maxLen) ∧ Hid (wi.ownsRow w.heap.size 9 1 (.slice A12 next2.length c12) next2.length (strs next2)) ∧ Hid (Away seen2.length A11 A12) ∧ Hid (Away now.length (some ⟨b8, o8, none⟩) A12) ∧ Hid (Sl wi wi.heap.size 1 (some ⟨b8, o8, none⟩) now.length (strs now)) ∧ Hid (MdA ts fr to m seen.length seen2 next2 p ((t.deps.drop k).filter (isT ts)) (now.drop (j + 1))) ∧ next2.length ≤ 1000 ∧ Hid (Below w.heap.size w wi)) (fun _ _ q13 _ => t.dn - (intOf q13).toNat)
            case atStart => exact ⟨0, A9, c9, A10, c10, seen', next, Nat.zero_le _, rfl, rfl, rfl, hS9.out, hc9, hm9.out, hAp.out, hW7.out, hW8.out, hSn.out, HMD.out, hnx, hBi.out⟩
            case round =>
              obtain ⟨k, A11, c11, A12, c12, seen2, next2, hk, rfl, rfl, rfl, hS11, hc11, hm11, hAp2, hW11, hW12, hSn2, hMd, hnx2, hBk⟩ := hrel
              obtain ⟨b, off, t', rfl, hbB, ht', y0, y1, y2, y3⟩ := (H0.out.below hBk.out hB).tg hkn
              rw [HTI.out] at ht'
              cases ht'
              have hkz : (ki : Int) < (n : Int) := by omega
              have hwk := hBk.out.size
              have hsl2 : seen2.length ≤ n := by have := hMd.out.len; rw [HL.out] at this; exact this
              by_cases hlt : k < t.dn
              · obtain ⟨bd, od, d, hdA, hbd, hd, yd⟩ := (HTO.out.d.below hBk.out hB).str_at hlt
                have hkt : (k : Int) < (t.dn : Int) := by omega
                rw [hdA] at y2
                have HDG := Lib.hid (drop_get hd)
                have HFD2 := Lib.hid (rfind_any (some ⟨b, off, none⟩) n c B ts d wr (H0.out.below hBk.out hB) (by omega))
                clear hd hdA
                cases hs : isT ts d with
                | false =>
                  have hp2 : posI ts d = -1 := posI_neg ts d (by rw [posI_isT] at hs; simpa using hs)
                  rw [hp2] at HFD2
                  have HMD2 : Hid (MdA ts fr to m seen.length seen2 next2 p ((t.deps.drop (k + 1)).filter (isT ts)) (now.drop (j + 1))) := by
                    have := hMd.out
                    rw [HDG.out, List.filter_cons, if_neg (by rw [hs]; simp)] at this
                    exact this
                  clear hs hp2
                  go_wp2_with (go_at_call 68; refine HFD2.out.mono ?_; rintro e w1 ⟨rfl, rfl⟩)
                  go_roundw
                  case rel => exact ⟨k + 1, A11, c11, A12, c12, seen2, next2, by omega, by go_num, rfl, rfl, hS11.out, hc11, hm11.out, hAp2.out, hW11.out, hW12.out, hSn2.out, HMD2.out, hnx2, hBk.out⟩
                  case measure => simp [intOf]; omega
                | true =>
                  obtain ⟨kd, hkd⟩ : ∃ kd : Nat, posI ts d = kd := by
                    have : 0 ≤ posI ts d := by rw [posI_isT] at hs; simpa using hs
                    exact ⟨(posI ts d).toNat, by omega⟩
                  rw [hkd] at HFD2
                  have hkdn : ¬ (kd : Int) < 0 := by omega
                  have HMD1 : Hid (MdA ts fr to m seen.length seen2 next2 p (d :: (t.deps.drop (k + 1)).filter (isT ts)) (now.drop (j + 1))) := by
                    have := hMd.out
                    rw [HDG.out, List.filter_cons, if_pos hs] at this
                    exact this
                  have HHS := Lib.hid (rhas_any A11 seen2.length seen2.length c11 wr.heap.size seen2 d wr hS11.out (Nat.le_refl _) (by omega))
                  rw [List.take_length] at HHS
                  clear hs hkd
                  cases hm : memB seen2 d with
                  | true =>
                    have HMD2 := Lib.hid (HMD1.out.skip ((memB_iff _ _).1 hm))
                    rw [hm] at HHS
                    clear hm
                    go_wp2_with (first
                      | (go_at_call 68; refine HFD2.out.mono ?_; rintro e w1 ⟨rfl, rfl⟩)
                      | (go_at_call 73; refine HHS.out.mono ?_; rintro e w1 ⟨rfl, rfl⟩))
                    go_roundw
                    case rel => exact ⟨k + 1, A11, c11, A12, c12, seen2, next2, by omega, by go_num, rfl, rfl, hS11.out, hc11, hm11.out, hAp2.out, hW11.out, hW12.out, hSn2.out, HMD2.out, hnx2, hBk.out⟩
                    case measure => simp [intOf]; omega
                  | false =>
                    have hnm : d ∉ seen2 := fun h => by rw [(memB_iff _ _).2 h] at hm; cases hm
                    rw [hm] at HHS
                    have hst := str_dec d to
                    by_cases hdt : d = to
                    · rw [decide_eq_true hdt] at hst
                      have HF : Hid (Dst (nxT ts) m fr to) := by subst hdt; exact HMD1.out.2.1.found
                      clear hdt hm
                      go_wp2_with (first
                        | (go_at_call 68; refine HFD2.out.mono ?_; rintro e w1 ⟨rfl, rfl⟩)
                        | (go_at_call 73; refine HHS.out.mono ?_; rintro e w1 ⟨rfl, rfl⟩))
                      go_ret
                      exact ⟨_, rfl, .inr ⟨m, rfl, HF.out⟩, by omega, hBk.out⟩
                    · rw [decide_eq_false hdt] at hst
                      have HMD2 := Lib.hid (HMD1.out.take hdt hnm)
                      have HIL := Lib.hid (insS_len hnm)
                      have hol2 : seen2.length + 1 ≤ n := by have := HMD2.out.len; rw [HIL.out, HL.out] at this; exact this
                      have HIN := Lib.hid (rinsert_any A11 seen2.length c11 wr.heap.size seen2 d wr hS11.out (Nat.le_refl _) hc11 hm11.out (by omega))
                      have HNM := Lib.hid hnm
                      clear hm hnm hdt
                      go_wp2_with (first
                        | (go_at_call 68; refine HFD2.out.mono ?_; rintro e w1 ⟨rfl, rfl⟩)
                        | (go_at_call 73; refine HHS.out.mono ?_; rintro e w1 ⟨rfl, rfl⟩)
                        | (go_at_call 78; refine HIN.out.mono ?_; rintro e w2 ⟨A13, c13, rfl, hS13, hc13, hm13, hb13, hfr13⟩; refine halt_ ?_))
                      refine unhalt ?_
                      have HS13 := Lib.hid hS13; have HM13 := Lib.hid hm13
                      have HFR := Lib.hid (hfr13 HNM.out)
                      have HLT := Lib.hid (own_lt hAp2.out)
                      have HAP2 : Hid (w2.ownsRow w.heap.size 9 1 (.slice A12 next2.length c12) next2.length (strs next2)) := own_keep hAp2.out (fun k hk => hb13.block k ((hAp2.out.lt k hk).2))
                      have HSN2 : Hid (Sl w2 w2.heap.size 1 (some ⟨b8, o8, none⟩) now.length (strs now)) := (hSn2.out.below hb13 (Nat.le_refl _)).more hb13.size
                      have HBW : Hid (Below w.heap.size w w2) := hBk.out.trans (hb13.mono hwk)
                      have HW13 : Hid (Away (insS seen2 d).length A13 A12) := fun _ p q hp hq => by
                        have h1 := HFR.out p hp
                        have h2 := HLT.out q hq
                        omega
                      have hw2 := HBW.out.size
                      have hnn : seen2.length = seen.length + next2.length := hMd.out.2.2
                      clear hS13 hm13 hb13 hfr13 hS11 hAp2 hSn2 hMd
                      go_wp2_with (at_builtin; refine halt_ ?_)
                      refine unhalt ?_
                      refine wpList_append_lies _ rfl (.tmp 74) (.tmp 76) 33 rfl w.heap.size 9 i0 _ 1 16 Tryz.underlying33 Hi.out Hz0.out Hz1.out Hz2.out rfl (by decide) (.slice A12 next2.length c12) next2.length (strs next2) rfl ?ow2 ⟨w2.heap.size, 0, none⟩ 1 1 [.string d] rfl rfl ?hs2 (by simp [Value.oneCell']) (by omega) ?b4 ?b5 ?b6 (w2.heap.size + 1) (by simp) ?_
                      case ow2 => exact HAP2.out.kept (World.grownBy_alloc w2 _ none) (by cases hv : (Value.slice A12 next2.length c12).ownBlock with | none => exact .inl rfl | some k => exact .inr (by simp))
                      case hs2 => exact new_cell w2 9 d
                      case b4 => unfold maxLen; omega
                      case b5 => omega
                      case b6 => simp; omega
                      intro g14 c14 w4 ho4 hg4 hat4 _
                      have e14 : strs (next2 ++ [d]) = strs next2 ++ [.string d] := strs_sn1 _ _
                      have HSa : Hid (Sl (w2.alloc (.cells #[.string d] 9)) (w2.heap.size + 1) 1 A13 (insS seen2 d).length (strs (insS seen2 d))) := (HS13.out.alloc (Nat.le_refl _) _).more (by omega)
                      have HSb : Hid (Sl (w2.alloc (.cells #[.string d] 9)) (w2.heap.size + 1) 1 (some ⟨b8, o8, none⟩) now.length (strs now)) := (HSN2.out.alloc (Nat.le_refl _) _).more (by omega)
                      have hz4 : w2.heap.size + 1 ≤ w4.heap.size := by have := hg4.size; simp at this; omega
                      have HS4 : Hid (Sl w4 w4.heap.size 1 A13 (insS seen2 d).length (strs (insS seen2 d))) := (HSa.out.away HW13.out hg4 (by simp)).more hz4
                      have HN4 : Hid (Sl w4 w4.heap.size 1 (some ⟨b8, o8, none⟩) now.length (strs now)) := (HSb.out.away hW12.out hg4 (by simp)).more hz4
                      have HW4 : Hid (Away (insS seen2 d).length A13 (some ⟨g14, 0, none⟩)) := HW13.out.on HSa.out hat4
                      have HW5 : Hid (Away now.length (some ⟨b8, o8, none⟩) (some ⟨g14, 0, none⟩)) := hW12.out.on HSb.out hat4
                      have HO4 : Hid (w4.ownsRow w.heap.size 9 1 (.slice (some ⟨g14, 0, none⟩) (next2 ++ [d]).length c14) (next2 ++ [d]).length (strs (next2 ++ [d]))) := by
                        show World.ownsRow _ _ _ _ _ _ _
                        rw [e14, List.length_append]; exact ho4
                      have HB4 : Hid (Below w.heap.size w w4) := (HBW.out.alloc hw2 _).grown hg4 (by simp; omega) (fun k hk => ownBlock_ge HAP2.out k hk)
                      have hnl4 : (next2 ++ [d]).length = next2.length + 1 := by simp
                      clear ho4 hg4 hat4 HSa HSb HS13 HSN2 HAP2
                      go_wp2
                      go_roundw
                      case rel => exact ⟨k + 1, A13, c13, _, c14, insS seen2 d, next2 ++ [d], by omega, by go_num, rfl, by rw [hnl4], HS4.out, hc13, HM13.out, HO4.out, HW4.out, HW5.out, HN4.out, HMD2.out, by omega, HB4.out⟩
                      case measure => simp [intOf]; omega
              · have hkt : ¬ (k : Int) < (t.dn : Int) := by omega
                have HMJ : Hid (MjA ts fr to m seen.length seen2 next2 now (j + 1)) := by
                  have := hMd.out
                  rw [List.drop_of_length_le (by omega)] at this
                  exact this.leave
                go_wp2
                go_roundw
                case rel => exact ⟨j + 1, A11, c11, A12, c12, seen2, next2, by omega, by go_num, rfl, rfl, hS11.out, hc11, hm11.out, hAp2.out, hW11.out, hW12.out, hSn2.out, HMJ.out, hnx2, hBk.out⟩
                case measure => simp [intOf]; omega
        · have hjz : ¬ (j : Int) < (now.length : Int) := by omega
          obtain ⟨h1, h2⟩ := hMj.out.close (by omega) hpos
          have HLV := Lib.hid h1
          clear h1
          have hsl3 : seen'.length ≤ n := by have := asc_len HLV.out.1 HLV.out.2.sound; rw [HL.out] at this; exact this
          go_wp2
          go_roundw
          case rel => exact ⟨m + 1, A9, c9, A10, c10, seen', next, by go_num, rfl, rfl, hS9.out, Sl.of_own hAp.out, hc9, hm9.out, HLV.out, by omega, hnx, hBi.out⟩
          case measure => simp only [slen]; omega
    · have hpz : ¬ (0 : Int) < (now.length : Int) := by omega
      have HN : Hid (¬ Rch (nxT ts) fr to) := by
        have h1 := hLv.out.2
        rw [List.eq_nil_of_length_eq_zero (by omega : now.length = 0)] at h1
        exact h1.none
      go_wp2
      go_ret
      exact ⟨_, rfl, .inl ⟨rfl, HN.out⟩, by omega, hBel.out⟩
end Go.Proofs.YtddlohbhchjjhaaGreatDoor
