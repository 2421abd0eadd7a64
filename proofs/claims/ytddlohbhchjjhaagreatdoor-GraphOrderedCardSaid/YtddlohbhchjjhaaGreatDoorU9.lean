/-
  Lemmas: The reference's steps. The reference's least.
-/
import Derived.Test.YtddlohbhchjjhaaGreatDoorU8

namespace Go.Proofs.YtddlohbhchjjhaaGreatDoor
open Go.RowKit Go.Maps

def StpR (ts : List Tg) (a b : ByteArray) (r : Int) : Prop := (r = -1 ∧ ¬ Rch (nxT ts) a b) ∨ ∃ k : Nat, r = (k : Int) + 1 ∧ Dst (nxT ts) k a b
def LvA (ts : List Tg) (a b : ByteArray) (m : Nat) (seen now : List ByteArray) : Prop := Asc seen ∧ Lvl (nxT ts) a b m seen now
def MdA (ts : List Tg) (a b : ByteArray) (m s0 : Nat) (seen next : List ByteArray) (p : ByteArray) (ys xs : List ByteArray) : Prop := Asc seen ∧ Mid (nxT ts) a b m seen next p ys xs ∧ seen.length = s0 + next.length
/-- between two labels of a level -/
def MjA (ts : List Tg) (a b : ByteArray) (m s0 : Nat) (seen next : List ByteArray) (now : List ByteArray) (j : Nat) : Prop :=
  (j = 0 ∧ LvA ts a b m seen now ∧ next = [] ∧ seen.length = s0) ∨ (0 < j ∧ ∃ p, MdA ts a b m s0 seen next p [] (now.drop j))
theorem asc_len {ts : List Tg} {seen : List ByteArray} {a : ByteArray} (h : Asc seen) (hs : ∀ x ∈ seen, Rch (nxT ts) a x) : seen.length ≤ ts.length := by
  have := nodup_len seen (ts.map Tg.lab) h.nodup (fun x hx => (isT_iff ts x).1 (rch_isT (hs x hx)))
  rwa [List.length_map] at this
theorem MjA.enter {ts : List Tg} {a b x : ByteArray} {m s0 j : Nat} {seen next now : List ByteArray} (h : MjA ts a b m s0 seen next now j) (hx : now[j]? = some x) : MdA ts a b m s0 seen next x (nxT ts x) (now.drop (j + 1)) := by
  rcases h with ⟨rfl, ⟨h1, h2⟩, rfl, h3⟩ | ⟨_, p, h1, h2, h3⟩
  · have e := drop_get hx
    rw [List.drop_zero] at e
    rw [e] at h2
    exact ⟨h1, h2.mid, by simpa using h3⟩
  · rw [drop_get hx] at h2
    exact ⟨h1, h2.on, h3⟩
theorem MdA.leave {ts : List Tg} {a b p : ByteArray} {m s0 j : Nat} {seen next now : List ByteArray} (h : MdA ts a b m s0 seen next p [] (now.drop (j + 1))) : MjA ts a b m s0 seen next now (j + 1) := .inr ⟨by omega, p, h⟩
theorem MjA.close {ts : List Tg} {a b : ByteArray} {m s0 j : Nat} {seen next now : List ByteArray} (h : MjA ts a b m s0 seen next now j) (hj : now.length ≤ j) (hn : 0 < now.length) : LvA ts a b (m + 1) seen next ∧ seen.length = s0 + next.length := by
  rcases h with ⟨rfl, _⟩ | ⟨_, p, h1, h2, h3⟩
  · omega
  · rw [List.drop_of_length_le hj] at h2
    exact ⟨⟨h1, h2.close⟩, h3⟩
theorem MdA.skip {ts : List Tg} {a b p y : ByteArray} {m s0 : Nat} {seen next ys xs : List ByteArray} (h : MdA ts a b m s0 seen next p (y :: ys) xs) (hy : y ∈ seen) : MdA ts a b m s0 seen next p ys xs := ⟨h.1, h.2.1.skip hy, h.2.2⟩
theorem MdA.take {ts : List Tg} {a b p y : ByteArray} {m s0 : Nat} {seen next ys xs : List ByteArray} (h : MdA ts a b m s0 seen next p (y :: ys) xs) (hb : y ≠ b) (hy : y ∉ seen) : MdA ts a b m s0 (insS seen y) (next ++ [y]) p ys xs :=
  ⟨asc_insS y h.1, h.2.1.take hb hy (fun x => mem_insS seen y x), by rw [insS_len hy, h.2.2, List.length_append]; simp; omega⟩
theorem MdA.len {ts : List Tg} {a b p : ByteArray} {m s0 : Nat} {seen next ys xs : List ByteArray} (h : MdA ts a b m s0 seen next p ys xs) : seen.length ≤ ts.length := asc_len h.1 h.2.1.sound

/-- a slice of n elements does not lie in the block of another one -/
def Away (n : Nat) (A A' : Option Addr) : Prop := 0 < n → ∀ p q, A = some p → A' = some q → p.block ≠ q.block
theorem Sl.away {w w' : World} {B size n m c : Nat} {A A' : Option Addr} {xs : List Value} (h : Sl w B size A n xs) (hw : Away n A A') (hg : w.grownBy w' (Value.slice A' m c).ownBlock) (hB : B ≤ w.heap.size) : Sl w' B size A n xs := by
  refine ⟨h.1, fun hn => ?_⟩
  obtain ⟨b, off, rfl, hb, hc⟩ := h.2 hn
  refine ⟨b, off, rfl, hb, fun j u hu => (World.cell?_of_block (hg.block b (by omega) (fun e => ?_))).trans (hc j u hu)⟩
  cases A' with
  | none => cases e
  | some q =>
    have e' : b = q.block := by injection e
    exact hw hn _ q rfl rfl e'
theorem Away.new {w : World} {B size n g : Nat} {A : Option Addr} {xs : List Value} (h : Sl w B size A n xs) (hg : B ≤ g) : Away n A (some ⟨g, 0, none⟩) := fun hn p q hp hq => by
  obtain ⟨b, off, e, hb, _⟩ := h.2 hn
  rw [hp] at e; cases e; cases hq
  show b ≠ g; omega
theorem Away.on {w : World} {B size n g m c : Nat} {A A' : Option Addr} {xs : List Value} (ha : Away n A A') (h : Sl w B size A n xs) (hg : (Value.slice A' m c).ownBlock = some g ∨ g = B) : Away n A (some ⟨g, 0, none⟩) := fun hn p q hp hq => by
  rcases hg with hg | hg
  · cases A' with
    | none => cases hg
    | some q' =>
      have e : q'.block = g := by injection hg
      cases hq
      have := ha hn p q' hp rfl
      show p.block ≠ g
      rw [← e]; exact this
  · exact Away.new h (by omega) hn p q hp hq
theorem own_lt {w : World} {base size n c : Nat} {e : TypeId} {A : Option Addr} {xs : List Value} (h : w.ownsRow base e size (.slice A n c) n xs) : ∀ q, A = some q → q.block < w.heap.size := fun q hq => by
  rcases h.2 with ⟨hv, _⟩ | ⟨g, cap, cur, hv, _, h2, _⟩
  · simp only [Value.slice.injEq] at hv; rw [hv.1] at hq; cases hq
  · simp only [Value.slice.injEq] at hv; rw [hv.1] at hq; cases hq; exact (Array.getElem?_eq_some_iff.1 h2).1
theorem own_none (w : World) (e : TypeId) {base : Nat} (hb : base ≤ w.heap.size) : (w.alloc (.cells #[] e)).ownsRow base e 1 (.slice (some ⟨w.heap.size, 0, none⟩) 0 0) 0 [] :=
  ⟨rfl, .inr ⟨w.heap.size, 0, #[], rfl, hb, World.alloc_heap_new w _, Nat.le_refl _, Nat.zero_le _, rfl, rfl⟩⟩

set_option maxRecDepth 100000 in
set_option maxHeartbeats 8000000 in
theorem rsteps_any (A : Option Addr) (n c B : Nat) (ts : List Tg) (fr to : ByteArray) (w : World) (h0 : Sl w B 4 A n (flat tgC ts)) (hok : ∀ t ∈ ts, TgOk w B t) (hB : B ≤ w.heap.size) (hn : n ≤ 1000) :
    Calls Tryz.prog 67 #[.slice A n c, .string fr, .string to] w fun e w' => ∃ r, e = .returned (.int .i64 r) ∧ StpR ts fr to r ∧ r ≤ 2 * (n : Int) + 2 ∧ Below w.heap.size w w' := by
  have HL := Lib.hid (h0.len tgC_len (by omega))
  have H0 := Lib.hid h0; have HOK := Lib.hid hok
  clear h0 hok
  obtain ⟨i0, hi, hz0, hz1, hz2⟩ := info_parts infoStr
  have Hi := Lib.hid hi; have Hz0 := Lib.hid hz0; have Hz1 := Lib.hid hz1; have Hz2 := Lib.hid hz2
  clear hi hz0 hz1 hz2
  go_enter Tryz.func67, Tryz.ntmps67
  go_wp2
  go_loopw [7, 8, 9] (fun q7 q8 q9 wr => ∃ (m : Nat) (A7 : Option Addr) (c7 : Nat) (A8 : Option Addr) (c8 : Nat) (seen now : List ByteArray), q9 = .int .i64 ((m : Int) + 1) ∧ q7 = .slice A7 seen.length c7 ∧ q8 = .slice A8 now.length c8 ∧ Hid (Sl wr wr.heap.size 1 A7 seen.length (strs seen)) ∧ Hid (Sl wr wr.heap.size 1 A8 now.length (strs now)) ∧ seen.length ≤ c7 ∧ Hid (c7 ≤ maxLen) ∧ Hid (LvA ts fr to m seen now) ∧ m + (2 * (n - seen.length) + min now.length 1) ≤ 2 * n + 1 ∧ now.length ≤ 1000 ∧ Hid (Below w.heap.size w wr)) (fun q7 q8 _ _ => 2 * (n - slen q7) + min (slen q8) 1)
  case atStart =>
    refine ⟨0, _, 0, _, 1, [], [fr], rfl, rfl, rfl, Sl.nil _ _ _ _, ?_, Nat.le_refl _, Nat.zero_le _, ⟨List.Pairwise.nil, Lvl.start _ _ _⟩, by simp, by simp, ((Below.refl _ w).alloc (Nat.le_refl _) _).alloc (by simp) _⟩
    refine ⟨rfl, fun _ => ⟨w.heap.size + 1, 0, rfl, by simp, fun j u hu => ?_⟩⟩
    have := new_cell (w.alloc (.cells #[] 9)) 9 fr j u hu
    rw [World.size_alloc, Addr.add_lit] at this; exact this
  case round =>
    obtain ⟨m, A7, c7, A8, c8, seen, now, rfl, rfl, rfl, hS7, hS8, hc7, hm7, hLv, hM, hnl, hBel⟩ := hrel
    by_cases hpos : 0 < now.length
    · have hpz : (0 : Int) < (now.length : Int) := by omega
      have hwr := hBel.out.size
      have hsl : seen.length ≤ n := by have := asc_len hLv.out.1 hLv.out.2.sound; rw [HL.out] at this; exact this
      obtain ⟨W1, hW1⟩ : ∃ W1, wr.alloc (.cells #[] 9) = W1 := ⟨_, rfl⟩
      have HBa : Hid (Below w.heap.size w W1) := by rw [← hW1]; exact hBel.out.alloc hwr _
      have HSa7 : Hid (Sl W1 W1.heap.size 1 A7 seen.length (strs seen)) := by rw [← hW1]; exact (hS7.out.alloc (Nat.le_refl _) _).more (by simp)
      have HSa8 : Hid (Sl W1 W1.heap.size 1 A8 now.length (strs now)) := by rw [← hW1]; exact (hS8.out.alloc (Nat.le_refl _) _).more (by simp)
      have HON : Hid (W1.ownsRow w.heap.size 9 1 (.slice (some ⟨wr.heap.size, 0, none⟩) 0 0) 0 (strs [])) := by rw [← hW1]; exact own_none wr _ hwr
      have HAW7 : Hid (Away seen.length A7 (some ⟨wr.heap.size, 0, none⟩)) := Away.new hS7.out (Nat.le_refl _)
      have HAW8 : Hid (Away now.length A8 (some ⟨wr.heap.size, 0, none⟩)) := Away.new hS8.out (Nat.le_refl _)
      clear hS7 hS8
      go_wp2
      go_loopw [7, 10, 11] (fun q7 q10 q11 wi => ∃ (j : Nat) (A9 : Option Addr) (c9 : Nat) (A10 : Option Addr) (c10 : Nat) (seen' next : List ByteArray), j ≤ now.length ∧ q11 = .int .i64 j ∧ q7 = .slice A9 seen'.length c9 ∧ q10 = .slice A10 next.length c10 ∧ Hid (Sl wi wi.heap.size 1 A9 seen'.length (strs seen')) ∧ seen'.length ≤ c9 ∧ Hid (c9 ≤ maxLen) ∧ Hid (wi.ownsRow w.heap.size 9 1 (.slice A10 next.length c10) next.length (strs next)) ∧ Hid (Away seen'.length A9 A10) ∧ Hid (Away now.length A8 A10) ∧ Hid (Sl wi wi.heap.size 1 A8 now.length (strs now)) ∧ Hid (MjA ts fr to m seen.length seen' next now j) ∧ next.length ≤ 1000 ∧ Hid (Below w.heap.size w wi)) (fun _ _ q11 _ => now.length - (intOf q11).toNat)
      case atStart => exact ⟨0, A7, c7, _, 0, seen, [], Nat.zero_le _, rfl, rfl, rfl, HSa7.out, hc7, hm7.out, HON.out, HAW7.out, HAW8.out, HSa8.out, .inl ⟨rfl, hLv.out, rfl, rfl⟩, by simp, HBa.out⟩
      case round =>
        obtain ⟨j, A9, c9, A10, c10, seen', next, hj, rfl, rfl, rfl, hS9, hc9, hm9, hAp, hW7, hW8, hSn, hMj, hnx, hBi⟩ := hrel
        by_cases hjl : j < now.length
        · obtain ⟨b8, o8, p, rfl, hb8, hp, y8⟩ := hSn.out.str_at hjl
          have hjz : (j : Int) < (now.length : Int) := by omega
          have HMD := Lib.hid (hMj.out.enter hp)
          have HFD := Lib.hid (rfind_any A n c B ts p wr (H0.out.below hBi.out hB) (by omega))
          clear hMj hp
          cases hf : findT ts p with
          | none =>
            have hp := posI_none hf
            rw [nxT_no hf] at HMD
            rw [hp] at HFD
            clear hf hp
            go_wp2_with (go_at_call 68; refine HFD.out.mono ?_; rintro e w1 ⟨rfl, rfl⟩)
            go_loopw [7, 10, 13] (fun q7 q10 q13 wi => q7 = .slice A9 seen'.length c9 ∧ q10 = .slice A10 next.length c10 ∧ q13 = .int .i64 0 ∧ wi = wr) (fun _ _ _ _ => 0)
            case atStart => exact ⟨rfl, rfl, rfl, rfl⟩
            case round =>
              obtain ⟨rfl, rfl, rfl, rfl⟩ := hrel
              go_wp2
              go_roundw
              case rel => exact ⟨j + 1, A9, c9, A10, c10, seen', next, by omega, by go_num, rfl, rfl, hS9.out, hc9, hm9.out, hAp.out, hW7.out, hW8.out, hSn.out, HMD.out.leave, hnx, hBi.out⟩
              case measure => simp [intOf]; omega
          | some t =>
            obtain ⟨ki, hki, hti⟩ := posI_some hf
            have htm := List.mem_of_getElem? hti
            rw [nxT_some hf] at HMD
            rw [hki] at HFD
            have hkn : ki < n := by have := (List.getElem?_eq_some_iff.1 hti).1; rw [HL.out] at this; exact this
            have HTO := Lib.hid (HOK.out t htm)
            have HTI := Lib.hid hti
            have hdl : t.deps.length = t.dn := HTO.out.dlen
            have hdnm : t.dn ≤ 9223372036854775807 := by have h1 := HTO.out.dle; have h2 := HTO.out.dmax; unfold maxLen at h2; omega
            clear hf hki hti htm
            go_wp2_with (go_at_call 68; refine HFD.out.mono ?_; rintro e w1 ⟨rfl, rfl⟩)
            go_loopw [7, 10, 13] (fun q7 q10 q13 wi => ∃ (k : Nat) (A11 : Option Addr) (c11 : Nat) (A12 : Option Addr) (c12 : Nat) (seen2 next2 : List ByteArray), k ≤ t.dn ∧ q13 = .int .i64 k ∧ q7 = .slice A11 seen2.length c11 ∧ q10 = .slice A12 next2.length c12 ∧ Hid (Sl wi wi.heap.size 1 A11 seen2.length (strs seen2)) ∧ seen2.length ≤ c11 ∧ Hid (c11 ≤ maxLen) ∧ Hid (wi.ownsRow w.heap.size 9 1 (.slice A12 next2.length c12) next2.length (strs next2)) ∧ Hid (Away seen2.length A11 A12) ∧ Hid (Away now.length (some ⟨b8, o8, none⟩) A12) ∧ Hid (Sl wi wi.heap.size 1 (some ⟨b8, o8, none⟩) now.length (strs now)) ∧ Hid (MdA ts fr to m seen.length seen2 next2 p ((t.deps.drop k).filter (isT ts)) (now.drop (j + 1))) ∧ next2.length ≤ 1000 ∧ Hid (Below w.heap.size w wi)) (fun _ _ q13 _ => t.dn - (intOf q13).toNat)
            case atStart => exact ⟨0, A9, c9, A10, c10, seen', next, Nat.zero_le _, rfl, rfl, rfl, hS9.out, hc9, hm9.out, hAp.out, hW7.out, hW8.out, hSn.out, HMD.out, hnx, hBi.out⟩
            case round =>
              obtain ⟨k, A11, c11, A12, c12, seen2, next2, hk, rfl, rfl, rfl, hS11, hc11, hm11, hAp2, hW11, hW12, hSn2, hMd, hnx2, hBk⟩ := hrel
              obtain ⟨b, off, t', rfl, hbB, ht', y0, y1, y2, y3⟩ := (H0.out.below hBk.out hB).tg hkn
              rw [HTI.out] at ht'
              cases ht'
              have hkz : (ki : Int) < (n : Int) := by omega
              have hwk := hBk.out.size
              have hsl2 : seen2.length ≤ n := by have := hMd.out.len; rw [HL.out] at this; exact this
              by_cases hlt : k < t.dn
              · obtain ⟨bd, od, d, hdA, hbd, hd, yd⟩ := (HTO.out.d.below hBk.out hB).str_at hlt
                have hkt : (k : Int) < (t.dn : Int) := by omega
                rw [hdA] at y2
                have HDG := Lib.hid (drop_get hd)
                have HFD2 := Lib.hid (rfind_any (some ⟨b, off, none⟩) n c B ts d wr (H0.out.below hBk.out hB) (by omega))
                clear hd hdA
                cases hs : isT ts d with
                | false =>
                  have hp2 : posI ts d = -1 := posI_neg ts d (by rw [posI_isT] at hs; simpa using hs)
                  rw [hp2] at HFD2
                  have HMD2 : Hid (MdA ts fr to m seen.length seen2 next2 p ((t.deps.drop (k + 1)).filter (isT ts)) (now.drop (j + 1))) := by
                    have := hMd.out
                    rw [HDG.out, List.filter_cons, if_neg (by rw [hs]; simp)] at this
                    exact this
                  clear hs hp2
                  go_wp2_with (go_at_call 68; refine HFD2.out.mono ?_; rintro e w1 ⟨rfl, rfl⟩)
                  go_roundw
                  case rel => exact ⟨k + 1, A11, c11, A12, c12, seen2, next2, by omega, by go_num, rfl, rfl, hS11.out, hc11, hm11.out, hAp2.out, hW11.out, hW12.out, hSn2.out, HMD2.out, hnx2, hBk.out⟩
                  case measure => simp [intOf]; omega
                | true =>
                  obtain ⟨kd, hkd⟩ : ∃ kd : Nat, posI ts d = kd := by
                    have : 0 ≤ posI ts d := by rw [posI_isT] at hs; simpa using hs
                    exact ⟨(posI ts d).toNat, by omega⟩
                  rw [hkd] at HFD2
                  have hkdn : ¬ (kd : Int) < 0 := by omega
                  have HMD1 : Hid (MdA ts fr to m seen.length seen2 next2 p (d :: (t.deps.drop (k + 1)).filter (isT ts)) (now.drop (j + 1))) := by
                    have := hMd.out
                    rw [HDG.out, List.filter_cons, if_pos hs] at this
                    exact this
                  have HHS := Lib.hid (rhas_any A11 seen2.length seen2.length c11 wr.heap.size seen2 d wr hS11.out (Nat.le_refl _) (by omega))
                  rw [List.take_length] at HHS
                  clear hs hkd
                  cases hm : memB seen2 d with
                  | true =>
                    have HMD2 := Lib.hid (HMD1.out.skip ((memB_iff _ _).1 hm))
                    rw [hm] at HHS
                    clear hm
                    go_wp2_with (first
                      | (go_at_call 68; refine HFD2.out.mono ?_; rintro e w1 ⟨rfl, rfl⟩)
                      | (go_at_call 73; refine HHS.out.mono ?_; rintro e w1 ⟨rfl, rfl⟩))
                    go_roundw
                    case rel => exact ⟨k + 1, A11, c11, A12, c12, seen2, next2, by omega, by go_num, rfl, rfl, hS11.out, hc11, hm11.out, hAp2.out, hW11.out, hW12.out, hSn2.out, HMD2.out, hnx2, hBk.out⟩
                    case measure => simp [intOf]; omega
                  | false =>
                    have hnm : d ∉ seen2 := fun h => by rw [(memB_iff _ _).2 h] at hm; cases hm
                    rw [hm] at HHS
                    have hst := str_dec d to
                    by_cases hdt : d = to
                    · rw [decide_eq_true hdt] at hst
                      have HF : Hid (Dst (nxT ts) m fr to) := by subst hdt; exact HMD1.out.2.1.found
                      clear hdt hm
                      go_wp2_with (first
                        | (go_at_call 68; refine HFD2.out.mono ?_; rintro e w1 ⟨rfl, rfl⟩)
                        | (go_at_call 73; refine HHS.out.mono ?_; rintro e w1 ⟨rfl, rfl⟩))
                      go_ret
                      exact ⟨_, rfl, .inr ⟨m, rfl, HF.out⟩, by omega, hBk.out⟩
                    · rw [decide_eq_false hdt] at hst
                      have HMD2 := Lib.hid (HMD1.out.take hdt hnm)
                      have HIL := Lib.hid (insS_len hnm)
                      have hol2 : seen2.length + 1 ≤ n := by have := HMD2.out.len; rw [HIL.out, HL.out] at this; exact this
                      have HIN := Lib.hid (rinsert_any A11 seen2.length c11 wr.heap.size seen2 d wr hS11.out (Nat.le_refl _) hc11 hm11.out (by omega))
                      have HNM := Lib.hid hnm
                      clear hm hnm hdt
                      go_wp2_with (first
                        | (go_at_call 68; refine HFD2.out.mono ?_; rintro e w1 ⟨rfl, rfl⟩)
                        | (go_at_call 73; refine HHS.out.mono ?_; rintro e w1 ⟨rfl, rfl⟩)
                        | (go_at_call 78; refine HIN.out.mono ?_; rintro e w2 ⟨A13, c13, rfl, hS13, hc13, hm13, hb13, hfr13⟩; refine halt_ ?_))
                      refine unhalt ?_
                      have HS13 := Lib.hid hS13; have HM13 := Lib.hid hm13
                      have HFR := Lib.hid (hfr13 HNM.out)
                      have HLT := Lib.hid (own_lt hAp2.out)
                      have HAP2 : Hid (w2.ownsRow w.heap.size 9 1 (.slice A12 next2.length c12) next2.length (strs next2)) := own_keep hAp2.out (fun k hk => hb13.block k ((hAp2.out.lt k hk).2))
                      have HSN2 : Hid (Sl w2 w2.heap.size 1 (some ⟨b8, o8, none⟩) now.length (strs now)) := (hSn2.out.below hb13 (Nat.le_refl _)).more hb13.size
                      have HBW : Hid (Below w.heap.size w w2) := hBk.out.trans (hb13.mono hwk)
                      have HW13 : Hid (Away (insS seen2 d).length A13 A12) := fun _ p q hp hq => by
                        have h1 := HFR.out p hp
                        have h2 := HLT.out q hq
                        omega
                      have hw2 := HBW.out.size
                      have hnn : seen2.length = seen.length + next2.length := hMd.out.2.2
                      clear hS13 hm13 hb13 hfr13 hS11 hAp2 hSn2 hMd
                      go_wp2_with (at_builtin; refine halt_ ?_)
                      refine unhalt ?_
                      refine wpList_append_lies _ rfl (.tmp 74) (.tmp 76) 33 rfl w.heap.size 9 i0 _ 1 16 Tryz.underlying33 Hi.out Hz0.out Hz1.out Hz2.out rfl (by decide) (.slice A12 next2.length c12) next2.length (strs next2) rfl ?ow2 ⟨w2.heap.size, 0, none⟩ 1 1 [.string d] rfl rfl ?hs2 (by simp [Value.oneCell']) (by omega) ?b4 ?b5 ?b6 (w2.heap.size + 1) (by simp) ?_
                      case ow2 => exact HAP2.out.kept (World.grownBy_alloc w2 _ none) (by cases hv : (Value.slice A12 next2.length c12).ownBlock with | none => exact .inl rfl | some k => exact .inr (by simp))
                      case hs2 => exact new_cell w2 9 d
                      case b4 => unfold maxLen; omega
                      case b5 => omega
                      case b6 => simp; omega
                      intro g14 c14 w4 ho4 hg4 hat4 _
                      have e14 : strs (next2 ++ [d]) = strs next2 ++ [.string d] := strs_sn1 _ _
                      have HSa : Hid (Sl (w2.alloc (.cells #[.string d] 9)) (w2.heap.size + 1) 1 A13 (insS seen2 d).length (strs (insS seen2 d))) := (HS13.out.alloc (Nat.le_refl _) _).more (by omega)
                      have HSb : Hid (Sl (w2.alloc (.cells #[.string d] 9)) (w2.heap.size + 1) 1 (some ⟨b8, o8, none⟩) now.length (strs now)) := (HSN2.out.alloc (Nat.le_refl _) _).more (by omega)
                      have hz4 : w2.heap.size + 1 ≤ w4.heap.size := by have := hg4.size; simp at this; omega
                      have HS4 : Hid (Sl w4 w4.heap.size 1 A13 (insS seen2 d).length (strs (insS seen2 d))) := (HSa.out.away HW13.out hg4 (by simp)).more hz4
                      have HN4 : Hid (Sl w4 w4.heap.size 1 (some ⟨b8, o8, none⟩) now.length (strs now)) := (HSb.out.away hW12.out hg4 (by simp)).more hz4
                      have HW4 : Hid (Away (insS seen2 d).length A13 (some ⟨g14, 0, none⟩)) := HW13.out.on HSa.out hat4
                      have HW5 : Hid (Away now.length (some ⟨b8, o8, none⟩) (some ⟨g14, 0, none⟩)) := hW12.out.on HSb.out hat4
                      have HO4 : Hid (w4.ownsRow w.heap.size 9 1 (.slice (some ⟨g14, 0, none⟩) (next2 ++ [d]).length c14) (next2 ++ [d]).length (strs (next2 ++ [d]))) := by
                        show World.ownsRow _ _ _ _ _ _ _
                        rw [e14, List.length_append]; exact ho4
                      have HB4 : Hid (Below w.heap.size w w4) := (HBW.out.alloc hw2 _).grown hg4 (by simp; omega) (fun k hk => ownBlock_ge HAP2.out k hk)
                      have hnl4 : (next2 ++ [d]).length = next2.length + 1 := by simp
                      clear ho4 hg4 hat4 HSa HSb HS13 HSN2 HAP2
                      go_wp2
                      go_roundw
                      case rel => exact ⟨k + 1, A13, c13, _, c14, insS seen2 d, next2 ++ [d], by omega, by go_num, rfl, by rw [hnl4], HS4.out, hc13, HM13.out, HO4.out, HW4.out, HW5.out, HN4.out, HMD2.out, by omega, HB4.out⟩
                      case measure => simp [intOf]; omega
              · have hkt : ¬ (k : Int) < (t.dn : Int) := by omega
                have HMJ : Hid (MjA ts fr to m seen.length seen2 next2 now (j + 1)) := by
                  have := hMd.out
                  rw [List.drop_of_length_le (by omega)] at this
                  exact this.leave
                go_wp2
                go_roundw
                case rel => exact ⟨j + 1, A11, c11, A12, c12, seen2, next2, by omega, by go_num, rfl, rfl, hS11.out, hc11, hm11.out, hAp2.out, hW11.out, hW12.out, hSn2.out, HMJ.out, hnx2, hBk.out⟩
                case measure => simp [intOf]; omega
        · have hjz : ¬ (j : Int) < (now.length : Int) := by omega
          obtain ⟨h1, h2⟩ := hMj.out.close (by omega) hpos
          have HLV := Lib.hid h1
          clear h1
          have hsl3 : seen'.length ≤ n := by have := asc_len HLV.out.1 HLV.out.2.sound; rw [HL.out] at this; exact this
          go_wp2
          go_roundw
          case rel => exact ⟨m + 1, A9, c9, A10, c10, seen', next, by go_num, rfl, rfl, hS9.out, Sl.of_own hAp.out, hc9, hm9.out, HLV.out, by omega, hnx, hBi.out⟩
          case measure => simp only [slen]; omega
    · have hpz : ¬ (0 : Int) < (now.length : Int) := by omega
      have HN : Hid (¬ Rch (nxT ts) fr to) := by
        have h1 := hLv.out.2
        rw [List.eq_nil_of_length_eq_zero (by omega : now.length = 0)] at h1
        exact h1.none
      go_wp2
      go_ret
      exact ⟨_, rfl, .inl ⟨rfl, HN.out⟩, by omega, hBel.out⟩
end Go.Proofs.YtddlohbhchjjhaaGreatDoor

namespace Go.Proofs.YtddlohbhchjjhaaGreatDoor
open Go.RowKit Go.Maps

theorem list36 {vs : List Value} (h : vs.length = 36) : ∃ v0 v1 v2 v3 v4 v5 v6 v7 v8 v9 v10 v11 v12 v13 v14 v15 v16 v17 v18 v19 v20 v21 v22 v23 v24 v25 v26 v27 v28 v29 v30 v31 v32 v33 v34 v35, vs = v0 :: v1 :: v2 :: v3 :: v4 :: v5 :: v6 :: v7 :: v8 :: v9 :: v10 :: v11 :: v12 :: v13 :: v14 :: v15 :: v16 :: v17 :: v18 :: v19 :: v20 :: v21 :: v22 :: v23 :: v24 :: v25 :: v26 :: v27 :: v28 :: v29 :: v30 :: v31 :: v32 :: v33 :: v34 :: v35 :: [] := by
  match vs, h with
  | v0 :: v1 :: v2 :: v3 :: v4 :: v5 :: v6 :: v7 :: v8 :: v9 :: v10 :: v11 :: v12 :: v13 :: v14 :: v15 :: v16 :: v17 :: v18 :: v19 :: v20 :: v21 :: v22 :: v23 :: v24 :: v25 :: v26 :: v27 :: v28 :: v29 :: v30 :: v31 :: v32 :: v33 :: v34 :: v35 :: [], _ => exact ⟨_, _, _, _, _, _, _, _, _, _, _, _, _, _, _, _, _, _, _, _, _, _, _, _, _, _, _, _, _, _, _, _, _, _, _, _, rfl⟩
def lstPhi (wanted : Bool) (vals : List Value) (ts : List Tg) (lab : ByteArray) (i : Nat) (v : Value) (W : World) : Prop :=
  if i = 29 then (if wanted then ∃ A' c' l, v = .slice A' l.length c' ∧ Sl W W.heap.size 1 A' l.length (strs l) ∧ l.length ≤ ts.length ∧ ∀ x, x ∈ l ↔ Rch (nxT ts) lab x else vPhi vals i v W) else vPhi vals i v W
theorem lstPhi_keep {wanted : Bool} {vals : List Value} {ts : List Tg} {lab : ByteArray} (i : Nat) (v : Value) (W W' : World) (h : lstPhi wanted vals ts lab i v W) (hb : Below W.heap.size W W') : lstPhi wanted vals ts lab i v W' := by
  unfold lstPhi at h ⊢
  by_cases e : i = 29
  · rw [if_pos e] at h ⊢
    cases wanted with
    | false => exact h
    | true =>
      rw [if_pos rfl] at h ⊢
      obtain ⟨A', c', l, h1, h2, h3⟩ := h
      exact ⟨A', c', l, h1, (h2.below hb (Nat.le_refl _)).more hb.size, h3⟩
  · rw [if_neg e] at h ⊢; exact h
/-- what has been found among the first k targets -/
def LstK (ts : List Tg) (k : Nat) (is : Bool) (out : ByteArray) : Prop :=
  (is = true → Rch (nxT ts) out out) ∧ ∀ j t, j < k → ts[j]? = some t → Rch (nxT ts) t.lab t.lab → is = true ∧ less t.lab out = false
def LeastR (ts : List Tg) (out : ByteArray) (is : Bool) : Prop := (is = true → Rch (nxT ts) out out) ∧ ∀ s, Rch (nxT ts) s s → is = true ∧ less s out = false
theorem LstK.end_ {ts : List Tg} {is : Bool} {out : ByteArray} {k : Nat} (h : LstK ts k is out) (hk : ts.length ≤ k) : LeastR ts out is := by
  refine ⟨h.1, fun s hs => ?_⟩
  obtain ⟨t, ht, rfl⟩ := List.mem_map.1 ((isT_iff ts s).1 (rch_isT hs))
  obtain ⟨j, hj, e⟩ := List.getElem_of_mem ht
  exact h.2 j t (by omega) (by rw [← e]; exact List.getElem?_eq_getElem _) hs
theorem LstK.start (ts : List Tg) : LstK ts 0 false ⟨#[]⟩ := ⟨(fun h => by cases h), fun j t h => absurd h (by omega)⟩
theorem LstK.pass {ts : List Tg} {is : Bool} {out : ByteArray} {k : Nat} {t : Tg} (h : LstK ts k is out) (ht : ts[k]? = some t) (hn : Rch (nxT ts) t.lab t.lab → is = true ∧ less t.lab out = false) : LstK ts (k + 1) is out := by
  refine ⟨h.1, fun j x hj hx hr => ?_⟩
  by_cases e : j = k
  · subst e; rw [ht] at hx; cases hx; exact hn hr
  · exact h.2 j x (by omega) hx hr
theorem LstK.got {ts : List Tg} {is : Bool} {out : ByteArray} {k : Nat} {t : Tg} (h : LstK ts k is out) (ht : ts[k]? = some t) (hr : Rch (nxT ts) t.lab t.lab) (hl : is = true → less t.lab out = true) : LstK ts (k + 1) true t.lab := by
  refine ⟨fun _ => hr, fun j x hj hx hrx => ⟨rfl, ?_⟩⟩
  by_cases e : j = k
  · subst e; rw [ht] at hx; cases hx; exact lessB_irrefl _
  · obtain ⟨h1, h2⟩ := h.2 j x (by omega) hx hrx
    cases h3 : less x.lab t.lab with
    | false => rfl
    | true => rw [lessB_trans h3 (hl h1)] at h2; cases h2
/-- the first target with a label stands at or ahead of each of them -/
theorem posI_le : ∀ {ts : List Tg} {k : Nat} {t : Tg}, ts[k]? = some t → ∃ j : Nat, posI ts t.lab = j ∧ j ≤ k ∧ ∃ x, ts[j]? = some x ∧ x.lab = t.lab
  | [], _, _, h => by simp at h
  | r :: ts, 0, t, h => by simp at h; subst h; exact ⟨0, by simp [posI], Nat.le_refl _, r, rfl, rfl⟩
  | r :: ts, k + 1, t, h => by
    obtain ⟨j, h1, h2, x, h3, h4⟩ := posI_le (ts := ts) (k := k) (by simpa using h)
    by_cases e : r.lab = t.lab
    · exact ⟨0, by simp [posI, e], by omega, r, rfl, e⟩
    · exact ⟨j + 1, by simp only [posI, if_neg e, h1]; rw [if_neg (by omega)]; omega, by omega, x, by simpa using h3, h4⟩

def LeastEnd (ts : List Tg) (w : World) (e : Ending) (w' : World) : Prop := ∃ s is, e = .returned (.tuple #[.string s, .bool is]) ∧ LeastR ts s is ∧ Below w.heap.size w w'
set_option maxRecDepth 100000 in
set_option maxHeartbeats 8000000 in
theorem rleast_any (A : Option Addr) (n c B : Nat) (ts : List Tg) (w : World) (h0 : Sl w B 4 A n (flat tgC ts)) (hok : ∀ t ∈ ts, TgOk w B t) (hB : B ≤ w.heap.size) (hn : n ≤ 1000) :
    Calls Tryz.prog 66 #[.slice A n c] w (LeastEnd ts w) := by
  have HL := Lib.hid (h0.len tgC_len (by omega))
  have H0 := Lib.hid h0; have HOK := Lib.hid hok
  clear h0 hok
  go_enter Tryz.func66, Tryz.ntmps66
  go_wp2
  go_loopw [4, 5, 6] (fun q4 q5 q6 wr => ∃ (k : Nat) (out : ByteArray) (is : Bool), k ≤ n ∧ q6 = .int .i64 k ∧ q4 = .string out ∧ q5 = .bool is ∧ Hid (LstK ts k is out) ∧ Hid (Below w.heap.size w wr)) (fun _ _ q6 _ => n - (intOf q6).toNat)
  case atStart => exact ⟨0, ⟨#[]⟩, false, Nat.zero_le _, rfl, rfl, rfl, LstK.start ts, Below.refl _ _⟩
  case round =>
    obtain ⟨k, out, is, hk, rfl, rfl, rfl, hK, hBel⟩ := hrel
    have hwr := hBel.out.size
    by_cases hlt : k < n
    · obtain ⟨b, off, t, rfl, hbB, ht, y0, y1, y2, y3⟩ := (H0.out.below hBel.out hB).tg hlt
      have hlz : (k : Int) < (n : Int) := by omega
      obtain ⟨lab, hlab⟩ : ∃ lab, t.lab = lab := ⟨_, rfl⟩
      rw [hlab] at y0
      have HY0 := Lib.hid y0
      obtain ⟨j, hpj, hjk, x, hx, hxl⟩ := posI_le ht
      rw [hlab] at hpj
      have HT := Lib.hid ht; have HLB := Lib.hid hlab
      have HPX : Hid (ts[j]? = some x ∧ x.lab = t.lab) := ⟨hx, hxl⟩
      clear y0 y1 y2 y3 ht hlab hx hxl
      by_cases hjk2 : j = k
      · have hjk3 : k = j := hjk2.symm
        clear hjk2
        subst hjk3
        have HPO := Lib.hid hpj
        obtain ⟨rb, hrb⟩ : ∃ rb : Bool, (rb = true ↔ Rch (nxT ts) lab lab) := by
          by_cases h : Rch (nxT ts) lab lab
          · exact ⟨true, by simp [h]⟩
          · exact ⟨false, by simp [h]⟩
        have HRB := Lib.hid hrb
        clear hpj hrb
        cases is with
        | false =>
          go_wp2_with fail
          refine wp_region_stableGD 36 (13 :: 14 :: 15 :: 16 :: 17 :: 18 :: 19 :: 20 :: 21 :: 22 :: 23 :: 24 :: 25 :: 26 :: 27 :: 28 :: 29 :: 30 :: 31 :: 32 :: 33 :: 34 :: 35 :: 36 :: 37 :: 38 :: 39 :: 40 :: 41 :: 42 :: 43 :: 44 :: 45 :: 46 :: 47 :: 48 :: []) (by kernel_rfl) (by kernel_rfl) (by kernel_rfl) (fun W => Below wr.heap.size wr W) (fun W W' => Below W.heap.size W W')
            (lstPhi true ((.slice (some ⟨b, off, none⟩) n c) :: (.slice (some ⟨b, off, none⟩) n c) :: (.int .i64 (k : Int)) :: (.pointer (some ⟨b, off + k * 4, none⟩)) :: (.pointer (some ⟨b, off + k * 4, none⟩)) :: (.string lab) :: (.int .i64 (k : Int)) :: (.int .i64 (k : Int)) :: (.bool true) :: (.bool true) :: (.bool false) :: (.bool true) :: (.bool true) :: (undef) :: (undef) :: (undef) :: (undef) :: (undef) :: (undef) :: (undef) :: (.bool true) :: (.bool true) :: (.bool true) :: (.slice (some ⟨b, off, none⟩) n c) :: (.slice (some ⟨b, off, none⟩) n c) :: (.int .i64 (k : Int)) :: (.pointer (some ⟨b, off + k * 4, none⟩)) :: (.pointer (some ⟨b, off + k * 4, none⟩)) :: (.string lab) :: undef :: (.slice (some ⟨b, off, none⟩) n c) :: (.int .i64 (k : Int)) :: (.pointer (some ⟨b, off + k * 4, none⟩)) :: (.pointer (some ⟨b, off + k * 4, none⟩)) :: (.string lab) :: (.bool rb) :: []) ts lab) (fun W W' h1 h2 => h1.trans (h2.mono h1.size)) (fun i v W W' h hb => lstPhi_keep i v W W' h hb) (Below.refl _ _).drew ?stepFIRST ?tailFIRST
          case stepFIRST =>
            intro i o vs W hi ho hv hR hphi
            obtain ⟨v0, v1, v2, v3, v4, v5, v6, v7, v8, v9, v10, v11, v12, v13, v14, v15, v16, v17, v18, v19, v20, v21, v22, v23, v24, v25, v26, v27, v28, v29, v30, v31, v32, v33, v34, v35, rfl⟩ := list36 hv
            simp only [List.zip, List.zipWith, putAll, Act.put, List.setIfInBounds_toArray, List.set]
            have l0 := (hR.cell (p := ⟨b, off + k * 4, none⟩) (by show b < _; omega)).trans HY0.out
            have hWz := hR.size
            match i, hi, ho with
            | 0, _, rfl =>
              exact .inl ⟨rfl, gives_value (v := .slice (some ⟨b, off, none⟩) n c) (w' := W) (by go_simp) ⟨Below.refl _ _, fun u hu => by cases hu; rfl⟩⟩
            | 1, _, rfl =>
              exact .inl ⟨rfl, gives_value (v := .slice (some ⟨b, off, none⟩) n c) (w' := W) (by go_simp) ⟨Below.refl _ _, fun u hu => by cases hu; rfl⟩⟩
            | 2, _, rfl =>
              exact .inl ⟨rfl, gives_value (v := .int .i64 (k : Int)) (w' := W) (by go_simp) ⟨Below.refl _ _, fun u hu => by cases hu; rfl⟩⟩
            | 3, _, rfl =>
              have e1 : v1 = _ := hphi ⟨1, .data⟩ (by simp) rfl v1 rfl _ rfl
              have e2 : v2 = _ := hphi ⟨2, .data⟩ (by simp) rfl v2 rfl _ rfl
              subst e1 e2
              exact .inl ⟨rfl, gives_value (v := .pointer (some ⟨b, off + k * 4, none⟩)) (w' := W) (by go_simp) ⟨Below.refl _ _, fun u hu => by cases hu; rfl⟩⟩
            | 4, _, rfl =>
              have e3 : v3 = _ := hphi ⟨3, .data⟩ (by simp) rfl v3 rfl _ rfl
              subst e3
              exact .inl ⟨rfl, gives_value (v := .pointer (some ⟨b, off + k * 4, none⟩)) (w' := W) (by go_simp) ⟨Below.refl _ _, fun u hu => by cases hu; rfl⟩⟩
            | 5, _, rfl =>
              have e4 : v4 = _ := hphi ⟨4, .data⟩ (by simp) rfl v4 rfl _ rfl
              subst e4
              exact .inl ⟨rfl, gives_value (v := .string lab) (w' := W) (by go_simp) ⟨Below.refl _ _, fun u hu => by cases hu; rfl⟩⟩
            | 6, _, rfl =>
              have e0 : v0 = _ := hphi ⟨0, .data⟩ (by simp) rfl v0 rfl _ rfl
              have e5 : v5 = _ := hphi ⟨5, .data⟩ (by simp) rfl v5 rfl _ rfl
              subst e0 e5
              refine .inl ⟨rfl, gives_call (f := 68) (args := #[.slice (some ⟨b, off, none⟩) n c, .string lab]) (by go_simp) ((rfind_any (some ⟨b, off, none⟩) n c B ts lab W ((H0.out.below hBel.out hB).below hR (by omega)) (by omega)).mono ?_)⟩
              rintro e W' ⟨rfl, rfl⟩
              exact ⟨_, rfl, Below.refl _ _, fun u hu => by cases hu; rw [HPO.out]⟩
            | 7, _, rfl =>
              exact .inl ⟨rfl, gives_value (v := .int .i64 (k : Int)) (w' := W) (by go_simp) ⟨Below.refl _ _, fun u hu => by cases hu; rfl⟩⟩
            | 8, _, rfl =>
              have e6 : v6 = _ := hphi ⟨6, .data⟩ (by simp) rfl v6 rfl _ rfl
              have e7 : v7 = _ := hphi ⟨7, .data⟩ (by simp) rfl v7 rfl _ rfl
              subst e6 e7
              exact .inl ⟨rfl, gives_value (v := .bool true) (w' := W) (by go_simp) ⟨Below.refl _ _, fun u hu => by cases hu; rfl⟩⟩
            | 9, _, rfl =>
              have e8 : v8 = _ := hphi ⟨8, .data⟩ (by simp) rfl v8 rfl _ rfl
              subst e8
              exact .inl ⟨rfl, gives_value (v := .bool true) (w' := W) (by go_simp) ⟨Below.refl _ _, fun u hu => by cases hu; rfl⟩⟩
            | 10, _, rfl =>
              have e9 : v9 = _ := hphi ⟨9, .guard⟩ (by simp) rfl v9 rfl _ rfl
              subst e9
              exact .inl ⟨rfl, gives_value (v := .bool false) (w' := W) (by go_simp) ⟨Below.refl _ _, fun u hu => by cases hu; rfl⟩⟩
            | 11, _, rfl =>
              have e10 : v10 = _ := hphi ⟨10, .data⟩ (by simp) rfl v10 rfl _ rfl
              have e9 : v9 = _ := hphi ⟨9, .guard⟩ (by simp) rfl v9 rfl _ rfl
              subst e9 e10
              exact .inl ⟨rfl, gives_value (v := .bool true) (w' := W) (by go_simp) ⟨Below.refl _ _, fun u hu => by cases hu; rfl⟩⟩
            | 12, _, rfl =>
              have e11 : v11 = _ := hphi ⟨11, .data⟩ (by simp) rfl v11 rfl _ rfl
              have e9 : v9 = _ := hphi ⟨9, .guard⟩ (by simp) rfl v9 rfl _ rfl
              subst e9 e11
              exact .inl ⟨rfl, gives_value (v := .bool true) (w' := W) (by go_simp) ⟨Below.refl _ _, fun u hu => by cases hu; rfl⟩⟩
            | 13, _, rfl =>
              have e12 : v12 = _ := hphi ⟨12, .guard⟩ (by simp) rfl v12 rfl _ rfl
              subst e12
              exact .inr ⟨rfl, Below.refl _ _, fun u hu => by cases hu; rfl⟩
            | 14, _, rfl =>
              have e12 : v12 = _ := hphi ⟨12, .guard⟩ (by simp) rfl v12 rfl _ rfl
              subst e12
              exact .inr ⟨rfl, Below.refl _ _, fun u hu => by cases hu; rfl⟩
            | 15, _, rfl =>
              have e13 : v13 = _ := hphi ⟨13, .data⟩ (by simp) rfl v13 rfl _ rfl
              have e14 : v14 = _ := hphi ⟨14, .data⟩ (by simp) rfl v14 rfl _ rfl
              have e12 : v12 = _ := hphi ⟨12, .guard⟩ (by simp) rfl v12 rfl _ rfl
              subst e12 e13 e14
              exact .inr ⟨rfl, Below.refl _ _, fun u hu => by cases hu; rfl⟩
            | 16, _, rfl =>
              have e15 : v15 = _ := hphi ⟨15, .data⟩ (by simp) rfl v15 rfl _ rfl
              have e12 : v12 = _ := hphi ⟨12, .guard⟩ (by simp) rfl v12 rfl _ rfl
              subst e12 e15
              exact .inr ⟨rfl, Below.refl _ _, fun u hu => by cases hu; rfl⟩
            | 17, _, rfl =>
              have e16 : v16 = _ := hphi ⟨16, .data⟩ (by simp) rfl v16 rfl _ rfl
              have e12 : v12 = _ := hphi ⟨12, .guard⟩ (by simp) rfl v12 rfl _ rfl
              subst e12 e16
              exact .inr ⟨rfl, Below.refl _ _, fun u hu => by cases hu; rfl⟩
            | 18, _, rfl =>
              have e12 : v12 = _ := hphi ⟨12, .guard⟩ (by simp) rfl v12 rfl _ rfl
              subst e12
              exact .inr ⟨rfl, Below.refl _ _, fun u hu => by cases hu; rfl⟩
            | 19, _, rfl =>
              have e17 : v17 = _ := hphi ⟨17, .data⟩ (by simp) rfl v17 rfl _ rfl
              have e18 : v18 = _ := hphi ⟨18, .data⟩ (by simp) rfl v18 rfl _ rfl
              have e12 : v12 = _ := hphi ⟨12, .guard⟩ (by simp) rfl v12 rfl _ rfl
              subst e12 e17 e18
              exact .inr ⟨rfl, Below.refl _ _, fun u hu => by cases hu; rfl⟩
            | 20, _, rfl =>
              have e12 : v12 = _ := hphi ⟨12, .data⟩ (by simp) rfl v12 rfl _ rfl
              have e19 : v19 = _ := hphi ⟨19, .data⟩ (by simp) rfl v19 rfl _ rfl
              have e9 : v9 = _ := hphi ⟨9, .guard⟩ (by simp) rfl v9 rfl _ rfl
              subst e9 e12 e19
              exact .inl ⟨rfl, gives_value (v := .bool true) (w' := W) (by go_simp) ⟨Below.refl _ _, fun u hu => by cases hu; rfl⟩⟩
            | 21, _, rfl =>
              have e9 : v9 = _ := hphi ⟨9, .data⟩ (by simp) rfl v9 rfl _ rfl
              have e20 : v20 = _ := hphi ⟨20, .data⟩ (by simp) rfl v20 rfl _ rfl
              subst e9 e20
              exact .inl ⟨rfl, gives_value (v := .bool true) (w' := W) (by go_simp) ⟨Below.refl _ _, fun u hu => by cases hu; rfl⟩⟩
            | 22, _, rfl =>
              have e21 : v21 = _ := hphi ⟨21, .data⟩ (by simp) rfl v21 rfl _ rfl
              subst e21
              exact .inl ⟨rfl, gives_value (v := .bool true) (w' := W) (by go_simp) ⟨Below.refl _ _, fun u hu => by cases hu; rfl⟩⟩
            | 23, _, rfl =>
              have e22 : v22 = _ := hphi ⟨22, .guard⟩ (by simp) rfl v22 rfl _ rfl
              subst e22
              exact .inl ⟨rfl, gives_value (v := .slice (some ⟨b, off, none⟩) n c) (w' := W) (by go_simp) ⟨Below.refl _ _, fun u hu => by cases hu; rfl⟩⟩
            | 24, _, rfl =>
              have e22 : v22 = _ := hphi ⟨22, .guard⟩ (by simp) rfl v22 rfl _ rfl
              subst e22
              exact .inl ⟨rfl, gives_value (v := .slice (some ⟨b, off, none⟩) n c) (w' := W) (by go_simp) ⟨Below.refl _ _, fun u hu => by cases hu; rfl⟩⟩
            | 25, _, rfl =>
              have e22 : v22 = _ := hphi ⟨22, .guard⟩ (by simp) rfl v22 rfl _ rfl
              subst e22
              exact .inl ⟨rfl, gives_value (v := .int .i64 (k : Int)) (w' := W) (by go_simp) ⟨Below.refl _ _, fun u hu => by cases hu; rfl⟩⟩
            | 26, _, rfl =>
              have e24 : v24 = _ := hphi ⟨24, .data⟩ (by simp) rfl v24 rfl _ rfl
              have e25 : v25 = _ := hphi ⟨25, .data⟩ (by simp) rfl v25 rfl _ rfl
              have e22 : v22 = _ := hphi ⟨22, .guard⟩ (by simp) rfl v22 rfl _ rfl
              subst e22 e24 e25
              exact .inl ⟨rfl, gives_value (v := .pointer (some ⟨b, off + k * 4, none⟩)) (w' := W) (by go_simp) ⟨Below.refl _ _, fun u hu => by cases hu; rfl⟩⟩
            | 27, _, rfl =>
              have e26 : v26 = _ := hphi ⟨26, .data⟩ (by simp) rfl v26 rfl _ rfl
              have e22 : v22 = _ := hphi ⟨22, .guard⟩ (by simp) rfl v22 rfl _ rfl
              subst e22 e26
              exact .inl ⟨rfl, gives_value (v := .pointer (some ⟨b, off + k * 4, none⟩)) (w' := W) (by go_simp) ⟨Below.refl _ _, fun u hu => by cases hu; rfl⟩⟩
            | 28, _, rfl =>
              have e27 : v27 = _ := hphi ⟨27, .data⟩ (by simp) rfl v27 rfl _ rfl
              have e22 : v22 = _ := hphi ⟨22, .guard⟩ (by simp) rfl v22 rfl _ rfl
              subst e22 e27
              exact .inl ⟨rfl, gives_value (v := .string lab) (w' := W) (by go_simp) ⟨Below.refl _ _, fun u hu => by cases hu; rfl⟩⟩
            | 29, _, rfl =>
              have e23 : v23 = _ := hphi ⟨23, .data⟩ (by simp) rfl v23 rfl _ rfl
              have e28 : v28 = _ := hphi ⟨28, .data⟩ (by simp) rfl v28 rfl _ rfl
              have e22 : v22 = _ := hphi ⟨22, .guard⟩ (by simp) rfl v22 rfl _ rfl
              subst e22 e23 e28
              refine .inl ⟨rfl, gives_call (f := 75) (args := #[.slice (some ⟨b, off, none⟩) n c, .string lab]) (by go_simp) ((rreach_any (some ⟨b, off, none⟩) n c B ts lab W ((H0.out.below hBel.out hB).below hR (by omega)) (fun t ht => ((HOK.out t ht).below hBel.out hB).below hR (by omega)) (by omega) hn).mono ?_)⟩
              rintro e W' ⟨A', c', l', rfl, hs1, hs2, hs3, hs4, hs5, hs6, hs7⟩
              exact ⟨_, rfl, hs4, A', c', l', rfl, hs1, by rw [HL.out]; exact hs6, hs7⟩
            | 30, _, rfl =>
              have e22 : v22 = _ := hphi ⟨22, .guard⟩ (by simp) rfl v22 rfl _ rfl
              subst e22
              exact .inl ⟨rfl, gives_value (v := .slice (some ⟨b, off, none⟩) n c) (w' := W) (by go_simp) ⟨Below.refl _ _, fun u hu => by cases hu; rfl⟩⟩
            | 31, _, rfl =>
              have e22 : v22 = _ := hphi ⟨22, .guard⟩ (by simp) rfl v22 rfl _ rfl
              subst e22
              exact .inl ⟨rfl, gives_value (v := .int .i64 (k : Int)) (w' := W) (by go_simp) ⟨Below.refl _ _, fun u hu => by cases hu; rfl⟩⟩
            | 32, _, rfl =>
              have e30 : v30 = _ := hphi ⟨30, .data⟩ (by simp) rfl v30 rfl _ rfl
              have e31 : v31 = _ := hphi ⟨31, .data⟩ (by simp) rfl v31 rfl _ rfl
              have e22 : v22 = _ := hphi ⟨22, .guard⟩ (by simp) rfl v22 rfl _ rfl
              subst e22 e30 e31
              exact .inl ⟨rfl, gives_value (v := .pointer (some ⟨b, off + k * 4, none⟩)) (w' := W) (by go_simp) ⟨Below.refl _ _, fun u hu => by cases hu; rfl⟩⟩
            | 33, _, rfl =>
              have e32 : v32 = _ := hphi ⟨32, .data⟩ (by simp) rfl v32 rfl _ rfl
              have e22 : v22 = _ := hphi ⟨22, .guard⟩ (by simp) rfl v22 rfl _ rfl
              subst e22 e32
              exact .inl ⟨rfl, gives_value (v := .pointer (some ⟨b, off + k * 4, none⟩)) (w' := W) (by go_simp) ⟨Below.refl _ _, fun u hu => by cases hu; rfl⟩⟩
            | 34, _, rfl =>
              have e33 : v33 = _ := hphi ⟨33, .data⟩ (by simp) rfl v33 rfl _ rfl
              have e22 : v22 = _ := hphi ⟨22, .guard⟩ (by simp) rfl v22 rfl _ rfl
              subst e22 e33
              exact .inl ⟨rfl, gives_value (v := .string lab) (w' := W) (by go_simp) ⟨Below.refl _ _, fun u hu => by cases hu; rfl⟩⟩
            | 35, _, rfl =>
              obtain ⟨A29, c29, l29, e29, g1, g2, g3⟩ : ∃ A29 c29, ∃ l29 : List ByteArray, v29 = .slice A29 l29.length c29 ∧ Sl W W.heap.size 1 A29 l29.length (strs l29) ∧ l29.length ≤ n ∧ ∀ x, x ∈ l29 ↔ Rch (nxT ts) lab x := by
                have := hphi ⟨29, .data⟩ (by simp) rfl v29 rfl
                obtain ⟨a1, a2, a3, a4, a5, a6, a7⟩ := this
                exact ⟨a1, a2, a3, a4, a5, by rw [← HL.out]; exact a6, a7⟩
              have e34 : v34 = _ := hphi ⟨34, .data⟩ (by simp) rfl v34 rfl _ rfl
              have e22 : v22 = _ := hphi ⟨22, .guard⟩ (by simp) rfl v22 rfl _ rfl
              subst e34 e29 e22
              refine .inl ⟨rfl, gives_call (f := 73) (args := #[.slice A29 l29.length c29, .string lab]) (by go_simp) ((rhas_any A29 l29.length l29.length c29 W.heap.size l29 lab W g1 (Nat.le_refl _) (by omega)).mono ?_)⟩
              rintro e W' ⟨rfl, rfl⟩
              exact ⟨_, rfl, Below.refl _ _, fun u hu => by cases hu; rw [List.take_length]; exact congrArg Value.bool (Bool.eq_iff_iff.2 ((memB_iff _ _).trans ((g3 lab).trans HRB.out.symm)))⟩
            | i + 36, hi, _ => exact absurd hi (by omega)
          case tailFIRST =>
            intro vs W hv hR hphi
            obtain ⟨v0, v1, v2, v3, v4, v5, v6, v7, v8, v9, v10, v11, v12, v13, v14, v15, v16, v17, v18, v19, v20, v21, v22, v23, v24, v25, v26, v27, v28, v29, v30, v31, v32, v33, v34, v35, rfl⟩ := list36 hv
            simp only [List.zip, List.zipWith, putAll, Act.put, List.setIfInBounds_toArray, List.set, List.drop]
            have e22 : v22 = _ := hphi 22 v22 rfl _ rfl
            have e35 : v35 = _ := hphi 35 v35 rfl _ rfl
            subst e22 e35
            have HBW : Hid (Below w.heap.size w W) := hBel.out.trans (hR.mono hBel.out.size)
            have HBR := Lib.hid hR
            clear hphi hR
            cases rb with
            | false =>
              have HK2 : Hid (LstK ts (k + 1) false out) := hK.out.pass HT.out (fun hr => by
                rw [HLB.out] at hr
                have := HRB.out.2 hr; cases this)
              go_wp2
              go_roundw
              case rel => exact ⟨k + 1, out, false, by omega, by go_num, rfl, rfl, HK2.out, HBW.out⟩
              case measure => simp [intOf]; omega
            | true =>
              have HK2 : Hid (LstK ts (k + 1) true lab) := by
                have := hK.out.got HT.out (by rw [HLB.out]; exact HRB.out.1 rfl) (fun h => by cases h)
                rw [HLB.out] at this; exact this
              have l0 := (HBR.out.cell (p := ⟨b, off + k * 4, none⟩) (by show b < _; omega)).trans HY0.out
              go_wp2
              go_roundw
              case rel => exact ⟨k + 1, lab, true, by omega, by go_num, rfl, rfl, HK2.out, HBW.out⟩
              case measure => simp [intOf]; omega
        | true =>
          have t1 := less_str lab out
          cases hl : less lab out with
          | true =>
            rw [hl] at t1
            have HLS := Lib.hid hl
            clear hl
            go_wp2_with fail
            refine wp_region_stableGD 36 (13 :: 14 :: 15 :: 16 :: 17 :: 18 :: 19 :: 20 :: 21 :: 22 :: 23 :: 24 :: 25 :: 26 :: 27 :: 28 :: 29 :: 30 :: 31 :: 32 :: 33 :: 34 :: 35 :: 36 :: 37 :: 38 :: 39 :: 40 :: 41 :: 42 :: 43 :: 44 :: 45 :: 46 :: 47 :: 48 :: []) (by kernel_rfl) (by kernel_rfl) (by kernel_rfl) (fun W => Below wr.heap.size wr W) (fun W W' => Below W.heap.size W W')
              (lstPhi true ((.slice (some ⟨b, off, none⟩) n c) :: (.slice (some ⟨b, off, none⟩) n c) :: (.int .i64 (k : Int)) :: (.pointer (some ⟨b, off + k * 4, none⟩)) :: (.pointer (some ⟨b, off + k * 4, none⟩)) :: (.string lab) :: (.int .i64 (k : Int)) :: (.int .i64 (k : Int)) :: (.bool true) :: (.bool true) :: (.bool true) :: (.bool false) :: (.bool false) :: (.slice (some ⟨b, off, none⟩) n c) :: (.int .i64 (k : Int)) :: (.pointer (some ⟨b, off + k * 4, none⟩)) :: (.pointer (some ⟨b, off + k * 4, none⟩)) :: (.string lab) :: (.string out) :: (.bool true) :: (.bool true) :: (.bool true) :: (.bool true) :: (.slice (some ⟨b, off, none⟩) n c) :: (.slice (some ⟨b, off, none⟩) n c) :: (.int .i64 (k : Int)) :: (.pointer (some ⟨b, off + k * 4, none⟩)) :: (.pointer (some ⟨b, off + k * 4, none⟩)) :: (.string lab) :: undef :: (.slice (some ⟨b, off, none⟩) n c) :: (.int .i64 (k : Int)) :: (.pointer (some ⟨b, off + k * 4, none⟩)) :: (.pointer (some ⟨b, off + k * 4, none⟩)) :: (.string lab) :: (.bool rb) :: []) ts lab) (fun W W' h1 h2 => h1.trans (h2.mono h1.size)) (fun i v W W' h hb => lstPhi_keep i v W W' h hb) (Below.refl _ _).drew ?stepBETTER ?tailBETTER
            case stepBETTER =>
              intro i o vs W hi ho hv hR hphi
              obtain ⟨v0, v1, v2, v3, v4, v5, v6, v7, v8, v9, v10, v11, v12, v13, v14, v15, v16, v17, v18, v19, v20, v21, v22, v23, v24, v25, v26, v27, v28, v29, v30, v31, v32, v33, v34, v35, rfl⟩ := list36 hv
              simp only [List.zip, List.zipWith, putAll, Act.put, List.setIfInBounds_toArray, List.set]
              have l0 := (hR.cell (p := ⟨b, off + k * 4, none⟩) (by show b < _; omega)).trans HY0.out
              have hWz := hR.size
              match i, hi, ho with
              | 0, _, rfl =>
                exact .inl ⟨rfl, gives_value (v := .slice (some ⟨b, off, none⟩) n c) (w' := W) (by go_simp) ⟨Below.refl _ _, fun u hu => by cases hu; rfl⟩⟩
              | 1, _, rfl =>
                exact .inl ⟨rfl, gives_value (v := .slice (some ⟨b, off, none⟩) n c) (w' := W) (by go_simp) ⟨Below.refl _ _, fun u hu => by cases hu; rfl⟩⟩
              | 2, _, rfl =>
                exact .inl ⟨rfl, gives_value (v := .int .i64 (k : Int)) (w' := W) (by go_simp) ⟨Below.refl _ _, fun u hu => by cases hu; rfl⟩⟩
              | 3, _, rfl =>
                have e1 : v1 = _ := hphi ⟨1, .data⟩ (by simp) rfl v1 rfl _ rfl
                have e2 : v2 = _ := hphi ⟨2, .data⟩ (by simp) rfl v2 rfl _ rfl
                subst e1 e2
                exact .inl ⟨rfl, gives_value (v := .pointer (some ⟨b, off + k * 4, none⟩)) (w' := W) (by go_simp) ⟨Below.refl _ _, fun u hu => by cases hu; rfl⟩⟩
              | 4, _, rfl =>
                have e3 : v3 = _ := hphi ⟨3, .data⟩ (by simp) rfl v3 rfl _ rfl
                subst e3
                exact .inl ⟨rfl, gives_value (v := .pointer (some ⟨b, off + k * 4, none⟩)) (w' := W) (by go_simp) ⟨Below.refl _ _, fun u hu => by cases hu; rfl⟩⟩
              | 5, _, rfl =>
                have e4 : v4 = _ := hphi ⟨4, .data⟩ (by simp) rfl v4 rfl _ rfl
                subst e4
                exact .inl ⟨rfl, gives_value (v := .string lab) (w' := W) (by go_simp) ⟨Below.refl _ _, fun u hu => by cases hu; rfl⟩⟩
              | 6, _, rfl =>
                have e0 : v0 = _ := hphi ⟨0, .data⟩ (by simp) rfl v0 rfl _ rfl
                have e5 : v5 = _ := hphi ⟨5, .data⟩ (by simp) rfl v5 rfl _ rfl
                subst e0 e5
                refine .inl ⟨rfl, gives_call (f := 68) (args := #[.slice (some ⟨b, off, none⟩) n c, .string lab]) (by go_simp) ((rfind_any (some ⟨b, off, none⟩) n c B ts lab W ((H0.out.below hBel.out hB).below hR (by omega)) (by omega)).mono ?_)⟩
                rintro e W' ⟨rfl, rfl⟩
                exact ⟨_, rfl, Below.refl _ _, fun u hu => by cases hu; rw [HPO.out]⟩
              | 7, _, rfl =>
                exact .inl ⟨rfl, gives_value (v := .int .i64 (k : Int)) (w' := W) (by go_simp) ⟨Below.refl _ _, fun u hu => by cases hu; rfl⟩⟩
              | 8, _, rfl =>
                have e6 : v6 = _ := hphi ⟨6, .data⟩ (by simp) rfl v6 rfl _ rfl
                have e7 : v7 = _ := hphi ⟨7, .data⟩ (by simp) rfl v7 rfl _ rfl
                subst e6 e7
                exact .inl ⟨rfl, gives_value (v := .bool true) (w' := W) (by go_simp) ⟨Below.refl _ _, fun u hu => by cases hu; rfl⟩⟩
              | 9, _, rfl =>
                have e8 : v8 = _ := hphi ⟨8, .data⟩ (by simp) rfl v8 rfl _ rfl
                subst e8
                exact .inl ⟨rfl, gives_value (v := .bool true) (w' := W) (by go_simp) ⟨Below.refl _ _, fun u hu => by cases hu; rfl⟩⟩
              | 10, _, rfl =>
                have e9 : v9 = _ := hphi ⟨9, .guard⟩ (by simp) rfl v9 rfl _ rfl
                subst e9
                exact .inl ⟨rfl, gives_value (v := .bool true) (w' := W) (by go_simp) ⟨Below.refl _ _, fun u hu => by cases hu; rfl⟩⟩
              | 11, _, rfl =>
                have e10 : v10 = _ := hphi ⟨10, .data⟩ (by simp) rfl v10 rfl _ rfl
                have e9 : v9 = _ := hphi ⟨9, .guard⟩ (by simp) rfl v9 rfl _ rfl
                subst e9 e10
                exact .inl ⟨rfl, gives_value (v := .bool false) (w' := W) (by go_simp) ⟨Below.refl _ _, fun u hu => by cases hu; rfl⟩⟩
              | 12, _, rfl =>
                have e11 : v11 = _ := hphi ⟨11, .data⟩ (by simp) rfl v11 rfl _ rfl
                have e9 : v9 = _ := hphi ⟨9, .guard⟩ (by simp) rfl v9 rfl _ rfl
                subst e9 e11
                exact .inl ⟨rfl, gives_value (v := .bool false) (w' := W) (by go_simp) ⟨Below.refl _ _, fun u hu => by cases hu; rfl⟩⟩
              | 13, _, rfl =>
                have e12 : v12 = _ := hphi ⟨12, .guard⟩ (by simp) rfl v12 rfl _ rfl
                subst e12
                exact .inl ⟨rfl, gives_value (v := .slice (some ⟨b, off, none⟩) n c) (w' := W) (by go_simp) ⟨Below.refl _ _, fun u hu => by cases hu; rfl⟩⟩
              | 14, _, rfl =>
                have e12 : v12 = _ := hphi ⟨12, .guard⟩ (by simp) rfl v12 rfl _ rfl
                subst e12
                exact .inl ⟨rfl, gives_value (v := .int .i64 (k : Int)) (w' := W) (by go_simp) ⟨Below.refl _ _, fun u hu => by cases hu; rfl⟩⟩
              | 15, _, rfl =>
                have e13 : v13 = _ := hphi ⟨13, .data⟩ (by simp) rfl v13 rfl _ rfl
                have e14 : v14 = _ := hphi ⟨14, .data⟩ (by simp) rfl v14 rfl _ rfl
                have e12 : v12 = _ := hphi ⟨12, .guard⟩ (by simp) rfl v12 rfl _ rfl
                subst e12 e13 e14
                exact .inl ⟨rfl, gives_value (v := .pointer (some ⟨b, off + k * 4, none⟩)) (w' := W) (by go_simp) ⟨Below.refl _ _, fun u hu => by cases hu; rfl⟩⟩
              | 16, _, rfl =>
                have e15 : v15 = _ := hphi ⟨15, .data⟩ (by simp) rfl v15 rfl _ rfl
                have e12 : v12 = _ := hphi ⟨12, .guard⟩ (by simp) rfl v12 rfl _ rfl
                subst e12 e15
                exact .inl ⟨rfl, gives_value (v := .pointer (some ⟨b, off + k * 4, none⟩)) (w' := W) (by go_simp) ⟨Below.refl _ _, fun u hu => by cases hu; rfl⟩⟩
              | 17, _, rfl =>
                have e16 : v16 = _ := hphi ⟨16, .data⟩ (by simp) rfl v16 rfl _ rfl
                have e12 : v12 = _ := hphi ⟨12, .guard⟩ (by simp) rfl v12 rfl _ rfl
                subst e12 e16
                exact .inl ⟨rfl, gives_value (v := .string lab) (w' := W) (by go_simp) ⟨Below.refl _ _, fun u hu => by cases hu; rfl⟩⟩
              | 18, _, rfl =>
                have e12 : v12 = _ := hphi ⟨12, .guard⟩ (by simp) rfl v12 rfl _ rfl
                subst e12
                exact .inl ⟨rfl, gives_value (v := .string out) (w' := W) (by go_simp) ⟨Below.refl _ _, fun u hu => by cases hu; rfl⟩⟩
              | 19, _, rfl =>
                have e17 : v17 = _ := hphi ⟨17, .data⟩ (by simp) rfl v17 rfl _ rfl
                have e18 : v18 = _ := hphi ⟨18, .data⟩ (by simp) rfl v18 rfl _ rfl
                have e12 : v12 = _ := hphi ⟨12, .guard⟩ (by simp) rfl v12 rfl _ rfl
                subst e12 e17 e18
                exact .inl ⟨rfl, gives_value (v := .bool true) (w' := W) (by go_simp) ⟨Below.refl _ _, fun u hu => by cases hu; rfl⟩⟩
              | 20, _, rfl =>
                have e12 : v12 = _ := hphi ⟨12, .data⟩ (by simp) rfl v12 rfl _ rfl
                have e19 : v19 = _ := hphi ⟨19, .data⟩ (by simp) rfl v19 rfl _ rfl
                have e9 : v9 = _ := hphi ⟨9, .guard⟩ (by simp) rfl v9 rfl _ rfl
                subst e9 e12 e19
                exact .inl ⟨rfl, gives_value (v := .bool true) (w' := W) (by go_simp) ⟨Below.refl _ _, fun u hu => by cases hu; rfl⟩⟩
              | 21, _, rfl =>
                have e9 : v9 = _ := hphi ⟨9, .data⟩ (by simp) rfl v9 rfl _ rfl
                have e20 : v20 = _ := hphi ⟨20, .data⟩ (by simp) rfl v20 rfl _ rfl
                subst e9 e20
                exact .inl ⟨rfl, gives_value (v := .bool true) (w' := W) (by go_simp) ⟨Below.refl _ _, fun u hu => by cases hu; rfl⟩⟩
              | 22, _, rfl =>
                have e21 : v21 = _ := hphi ⟨21, .data⟩ (by simp) rfl v21 rfl _ rfl
                subst e21
                exact .inl ⟨rfl, gives_value (v := .bool true) (w' := W) (by go_simp) ⟨Below.refl _ _, fun u hu => by cases hu; rfl⟩⟩
              | 23, _, rfl =>
                have e22 : v22 = _ := hphi ⟨22, .guard⟩ (by simp) rfl v22 rfl _ rfl
                subst e22
                exact .inl ⟨rfl, gives_value (v := .slice (some ⟨b, off, none⟩) n c) (w' := W) (by go_simp) ⟨Below.refl _ _, fun u hu => by cases hu; rfl⟩⟩
              | 24, _, rfl =>
                have e22 : v22 = _ := hphi ⟨22, .guard⟩ (by simp) rfl v22 rfl _ rfl
                subst e22
                exact .inl ⟨rfl, gives_value (v := .slice (some ⟨b, off, none⟩) n c) (w' := W) (by go_simp) ⟨Below.refl _ _, fun u hu => by cases hu; rfl⟩⟩
              | 25, _, rfl =>
                have e22 : v22 = _ := hphi ⟨22, .guard⟩ (by simp) rfl v22 rfl _ rfl
                subst e22
                exact .inl ⟨rfl, gives_value (v := .int .i64 (k : Int)) (w' := W) (by go_simp) ⟨Below.refl _ _, fun u hu => by cases hu; rfl⟩⟩
              | 26, _, rfl =>
                have e24 : v24 = _ := hphi ⟨24, .data⟩ (by simp) rfl v24 rfl _ rfl
                have e25 : v25 = _ := hphi ⟨25, .data⟩ (by simp) rfl v25 rfl _ rfl
                have e22 : v22 = _ := hphi ⟨22, .guard⟩ (by simp) rfl v22 rfl _ rfl
                subst e22 e24 e25
                exact .inl ⟨rfl, gives_value (v := .pointer (some ⟨b, off + k * 4, none⟩)) (w' := W) (by go_simp) ⟨Below.refl _ _, fun u hu => by cases hu; rfl⟩⟩
              | 27, _, rfl =>
                have e26 : v26 = _ := hphi ⟨26, .data⟩ (by simp) rfl v26 rfl _ rfl
                have e22 : v22 = _ := hphi ⟨22, .guard⟩ (by simp) rfl v22 rfl _ rfl
                subst e22 e26
                exact .inl ⟨rfl, gives_value (v := .pointer (some ⟨b, off + k * 4, none⟩)) (w' := W) (by go_simp) ⟨Below.refl _ _, fun u hu => by cases hu; rfl⟩⟩
              | 28, _, rfl =>
                have e27 : v27 = _ := hphi ⟨27, .data⟩ (by simp) rfl v27 rfl _ rfl
                have e22 : v22 = _ := hphi ⟨22, .guard⟩ (by simp) rfl v22 rfl _ rfl
                subst e22 e27
                exact .inl ⟨rfl, gives_value (v := .string lab) (w' := W) (by go_simp) ⟨Below.refl _ _, fun u hu => by cases hu; rfl⟩⟩
              | 29, _, rfl =>
                have e23 : v23 = _ := hphi ⟨23, .data⟩ (by simp) rfl v23 rfl _ rfl
                have e28 : v28 = _ := hphi ⟨28, .data⟩ (by simp) rfl v28 rfl _ rfl
                have e22 : v22 = _ := hphi ⟨22, .guard⟩ (by simp) rfl v22 rfl _ rfl
                subst e22 e23 e28
                refine .inl ⟨rfl, gives_call (f := 75) (args := #[.slice (some ⟨b, off, none⟩) n c, .string lab]) (by go_simp) ((rreach_any (some ⟨b, off, none⟩) n c B ts lab W ((H0.out.below hBel.out hB).below hR (by omega)) (fun t ht => ((HOK.out t ht).below hBel.out hB).below hR (by omega)) (by omega) hn).mono ?_)⟩
                rintro e W' ⟨A', c', l', rfl, hs1, hs2, hs3, hs4, hs5, hs6, hs7⟩
                exact ⟨_, rfl, hs4, A', c', l', rfl, hs1, by rw [HL.out]; exact hs6, hs7⟩
              | 30, _, rfl =>
                have e22 : v22 = _ := hphi ⟨22, .guard⟩ (by simp) rfl v22 rfl _ rfl
                subst e22
                exact .inl ⟨rfl, gives_value (v := .slice (some ⟨b, off, none⟩) n c) (w' := W) (by go_simp) ⟨Below.refl _ _, fun u hu => by cases hu; rfl⟩⟩
              | 31, _, rfl =>
                have e22 : v22 = _ := hphi ⟨22, .guard⟩ (by simp) rfl v22 rfl _ rfl
                subst e22
                exact .inl ⟨rfl, gives_value (v := .int .i64 (k : Int)) (w' := W) (by go_simp) ⟨Below.refl _ _, fun u hu => by cases hu; rfl⟩⟩
              | 32, _, rfl =>
                have e30 : v30 = _ := hphi ⟨30, .data⟩ (by simp) rfl v30 rfl _ rfl
                have e31 : v31 = _ := hphi ⟨31, .data⟩ (by simp) rfl v31 rfl _ rfl
                have e22 : v22 = _ := hphi ⟨22, .guard⟩ (by simp) rfl v22 rfl _ rfl
                subst e22 e30 e31
                exact .inl ⟨rfl, gives_value (v := .pointer (some ⟨b, off + k * 4, none⟩)) (w' := W) (by go_simp) ⟨Below.refl _ _, fun u hu => by cases hu; rfl⟩⟩
              | 33, _, rfl =>
                have e32 : v32 = _ := hphi ⟨32, .data⟩ (by simp) rfl v32 rfl _ rfl
                have e22 : v22 = _ := hphi ⟨22, .guard⟩ (by simp) rfl v22 rfl _ rfl
                subst e22 e32
                exact .inl ⟨rfl, gives_value (v := .pointer (some ⟨b, off + k * 4, none⟩)) (w' := W) (by go_simp) ⟨Below.refl _ _, fun u hu => by cases hu; rfl⟩⟩
              | 34, _, rfl =>
                have e33 : v33 = _ := hphi ⟨33, .data⟩ (by simp) rfl v33 rfl _ rfl
                have e22 : v22 = _ := hphi ⟨22, .guard⟩ (by simp) rfl v22 rfl _ rfl
                subst e22 e33
                exact .inl ⟨rfl, gives_value (v := .string lab) (w' := W) (by go_simp) ⟨Below.refl _ _, fun u hu => by cases hu; rfl⟩⟩
              | 35, _, rfl =>
                obtain ⟨A29, c29, l29, e29, g1, g2, g3⟩ : ∃ A29 c29, ∃ l29 : List ByteArray, v29 = .slice A29 l29.length c29 ∧ Sl W W.heap.size 1 A29 l29.length (strs l29) ∧ l29.length ≤ n ∧ ∀ x, x ∈ l29 ↔ Rch (nxT ts) lab x := by
                  have := hphi ⟨29, .data⟩ (by simp) rfl v29 rfl
                  obtain ⟨a1, a2, a3, a4, a5, a6, a7⟩ := this
                  exact ⟨a1, a2, a3, a4, a5, by rw [← HL.out]; exact a6, a7⟩
                have e34 : v34 = _ := hphi ⟨34, .data⟩ (by simp) rfl v34 rfl _ rfl
                have e22 : v22 = _ := hphi ⟨22, .guard⟩ (by simp) rfl v22 rfl _ rfl
                subst e34 e29 e22
                refine .inl ⟨rfl, gives_call (f := 73) (args := #[.slice A29 l29.length c29, .string lab]) (by go_simp) ((rhas_any A29 l29.length l29.length c29 W.heap.size l29 lab W g1 (Nat.le_refl _) (by omega)).mono ?_)⟩
                rintro e W' ⟨rfl, rfl⟩
                exact ⟨_, rfl, Below.refl _ _, fun u hu => by cases hu; rw [List.take_length]; exact congrArg Value.bool (Bool.eq_iff_iff.2 ((memB_iff _ _).trans ((g3 lab).trans HRB.out.symm)))⟩
              | i + 36, hi, _ => exact absurd hi (by omega)
            case tailBETTER =>
              intro vs W hv hR hphi
              obtain ⟨v0, v1, v2, v3, v4, v5, v6, v7, v8, v9, v10, v11, v12, v13, v14, v15, v16, v17, v18, v19, v20, v21, v22, v23, v24, v25, v26, v27, v28, v29, v30, v31, v32, v33, v34, v35, rfl⟩ := list36 hv
              simp only [List.zip, List.zipWith, putAll, Act.put, List.setIfInBounds_toArray, List.set, List.drop]
              have e22 : v22 = _ := hphi 22 v22 rfl _ rfl
              have e35 : v35 = _ := hphi 35 v35 rfl _ rfl
              subst e22 e35
              have HBW : Hid (Below w.heap.size w W) := hBel.out.trans (hR.mono hBel.out.size)
              have HBR := Lib.hid hR
              clear hphi hR
              cases rb with
              | false =>
                have HK2 : Hid (LstK ts (k + 1) true out) := hK.out.pass HT.out (fun hr => by
                  rw [HLB.out] at hr
                  have := HRB.out.2 hr; cases this)
                go_wp2
                go_roundw
                case rel => exact ⟨k + 1, out, true, by omega, by go_num, rfl, rfl, HK2.out, HBW.out⟩
                case measure => simp [intOf]; omega
              | true =>
                have HK2 : Hid (LstK ts (k + 1) true lab) := by
                  have := hK.out.got HT.out (by rw [HLB.out]; exact HRB.out.1 rfl) (fun _ => by rw [HLB.out]; exact HLS.out)
                  rw [HLB.out] at this; exact this
                have l0 := (HBR.out.cell (p := ⟨b, off + k * 4, none⟩) (by show b < _; omega)).trans HY0.out
                go_wp2
                go_roundw
                case rel => exact ⟨k + 1, lab, true, by omega, by go_num, rfl, rfl, HK2.out, HBW.out⟩
                case measure => simp [intOf]; omega
          | false =>
            rw [hl] at t1
            have HK2 : Hid (LstK ts (k + 1) true out) := hK.out.pass HT.out (fun _ => ⟨rfl, by rw [HLB.out]; exact hl⟩)
            clear hl
            go_wp2_with fail
            refine wp_region_stableGD 36 (13 :: 14 :: 15 :: 16 :: 17 :: 18 :: 19 :: 20 :: 21 :: 22 :: 23 :: 24 :: 25 :: 26 :: 27 :: 28 :: 29 :: 30 :: 31 :: 32 :: 33 :: 34 :: 35 :: 36 :: 37 :: 38 :: 39 :: 40 :: 41 :: 42 :: 43 :: 44 :: 45 :: 46 :: 47 :: 48 :: []) (by kernel_rfl) (by kernel_rfl) (by kernel_rfl) (fun W => Below wr.heap.size wr W) (fun W W' => Below W.heap.size W W')
              (lstPhi false ((.slice (some ⟨b, off, none⟩) n c) :: (.slice (some ⟨b, off, none⟩) n c) :: (.int .i64 (k : Int)) :: (.pointer (some ⟨b, off + k * 4, none⟩)) :: (.pointer (some ⟨b, off + k * 4, none⟩)) :: (.string lab) :: (.int .i64 (k : Int)) :: (.int .i64 (k : Int)) :: (.bool true) :: (.bool true) :: (.bool true) :: (.bool false) :: (.bool false) :: (.slice (some ⟨b, off, none⟩) n c) :: (.int .i64 (k : Int)) :: (.pointer (some ⟨b, off + k * 4, none⟩)) :: (.pointer (some ⟨b, off + k * 4, none⟩)) :: (.string lab) :: (.string out) :: (.bool false) :: (.bool false) :: (.bool false) :: (.bool false) :: (undef) :: (undef) :: (undef) :: (undef) :: (undef) :: (undef) :: (undef) :: (undef) :: (undef) :: (undef) :: (undef) :: (undef) :: (undef) :: []) ts lab) (fun W W' h1 h2 => h1.trans (h2.mono h1.size)) (fun i v W W' h hb => lstPhi_keep i v W W' h hb) (Below.refl _ _).drew ?stepKEEP ?tailKEEP
            case stepKEEP =>
              intro i o vs W hi ho hv hR hphi
              obtain ⟨v0, v1, v2, v3, v4, v5, v6, v7, v8, v9, v10, v11, v12, v13, v14, v15, v16, v17, v18, v19, v20, v21, v22, v23, v24, v25, v26, v27, v28, v29, v30, v31, v32, v33, v34, v35, rfl⟩ := list36 hv
              simp only [List.zip, List.zipWith, putAll, Act.put, List.setIfInBounds_toArray, List.set]
              have l0 := (hR.cell (p := ⟨b, off + k * 4, none⟩) (by show b < _; omega)).trans HY0.out
              have hWz := hR.size
              match i, hi, ho with
              | 0, _, rfl =>
                exact .inl ⟨rfl, gives_value (v := .slice (some ⟨b, off, none⟩) n c) (w' := W) (by go_simp) ⟨Below.refl _ _, fun u hu => by cases hu; rfl⟩⟩
              | 1, _, rfl =>
                exact .inl ⟨rfl, gives_value (v := .slice (some ⟨b, off, none⟩) n c) (w' := W) (by go_simp) ⟨Below.refl _ _, fun u hu => by cases hu; rfl⟩⟩
              | 2, _, rfl =>
                exact .inl ⟨rfl, gives_value (v := .int .i64 (k : Int)) (w' := W) (by go_simp) ⟨Below.refl _ _, fun u hu => by cases hu; rfl⟩⟩
              | 3, _, rfl =>
                have e1 : v1 = _ := hphi ⟨1, .data⟩ (by simp) rfl v1 rfl _ rfl
                have e2 : v2 = _ := hphi ⟨2, .data⟩ (by simp) rfl v2 rfl _ rfl
                subst e1 e2
                exact .inl ⟨rfl, gives_value (v := .pointer (some ⟨b, off + k * 4, none⟩)) (w' := W) (by go_simp) ⟨Below.refl _ _, fun u hu => by cases hu; rfl⟩⟩
              | 4, _, rfl =>
                have e3 : v3 = _ := hphi ⟨3, .data⟩ (by simp) rfl v3 rfl _ rfl
                subst e3
                exact .inl ⟨rfl, gives_value (v := .pointer (some ⟨b, off + k * 4, none⟩)) (w' := W) (by go_simp) ⟨Below.refl _ _, fun u hu => by cases hu; rfl⟩⟩
              | 5, _, rfl =>
                have e4 : v4 = _ := hphi ⟨4, .data⟩ (by simp) rfl v4 rfl _ rfl
                subst e4
                exact .inl ⟨rfl, gives_value (v := .string lab) (w' := W) (by go_simp) ⟨Below.refl _ _, fun u hu => by cases hu; rfl⟩⟩
              | 6, _, rfl =>
                have e0 : v0 = _ := hphi ⟨0, .data⟩ (by simp) rfl v0 rfl _ rfl
                have e5 : v5 = _ := hphi ⟨5, .data⟩ (by simp) rfl v5 rfl _ rfl
                subst e0 e5
                refine .inl ⟨rfl, gives_call (f := 68) (args := #[.slice (some ⟨b, off, none⟩) n c, .string lab]) (by go_simp) ((rfind_any (some ⟨b, off, none⟩) n c B ts lab W ((H0.out.below hBel.out hB).below hR (by omega)) (by omega)).mono ?_)⟩
                rintro e W' ⟨rfl, rfl⟩
                exact ⟨_, rfl, Below.refl _ _, fun u hu => by cases hu; rw [HPO.out]⟩
              | 7, _, rfl =>
                exact .inl ⟨rfl, gives_value (v := .int .i64 (k : Int)) (w' := W) (by go_simp) ⟨Below.refl _ _, fun u hu => by cases hu; rfl⟩⟩
              | 8, _, rfl =>
                have e6 : v6 = _ := hphi ⟨6, .data⟩ (by simp) rfl v6 rfl _ rfl
                have e7 : v7 = _ := hphi ⟨7, .data⟩ (by simp) rfl v7 rfl _ rfl
                subst e6 e7
                exact .inl ⟨rfl, gives_value (v := .bool true) (w' := W) (by go_simp) ⟨Below.refl _ _, fun u hu => by cases hu; rfl⟩⟩
              | 9, _, rfl =>
                have e8 : v8 = _ := hphi ⟨8, .data⟩ (by simp) rfl v8 rfl _ rfl
                subst e8
                exact .inl ⟨rfl, gives_value (v := .bool true) (w' := W) (by go_simp) ⟨Below.refl _ _, fun u hu => by cases hu; rfl⟩⟩
              | 10, _, rfl =>
                have e9 : v9 = _ := hphi ⟨9, .guard⟩ (by simp) rfl v9 rfl _ rfl
                subst e9
                exact .inl ⟨rfl, gives_value (v := .bool true) (w' := W) (by go_simp) ⟨Below.refl _ _, fun u hu => by cases hu; rfl⟩⟩
              | 11, _, rfl =>
                have e10 : v10 = _ := hphi ⟨10, .data⟩ (by simp) rfl v10 rfl _ rfl
                have e9 : v9 = _ := hphi ⟨9, .guard⟩ (by simp) rfl v9 rfl _ rfl
                subst e9 e10
                exact .inl ⟨rfl, gives_value (v := .bool false) (w' := W) (by go_simp) ⟨Below.refl _ _, fun u hu => by cases hu; rfl⟩⟩
              | 12, _, rfl =>
                have e11 : v11 = _ := hphi ⟨11, .data⟩ (by simp) rfl v11 rfl _ rfl
                have e9 : v9 = _ := hphi ⟨9, .guard⟩ (by simp) rfl v9 rfl _ rfl
                subst e9 e11
                exact .inl ⟨rfl, gives_value (v := .bool false) (w' := W) (by go_simp) ⟨Below.refl _ _, fun u hu => by cases hu; rfl⟩⟩
              | 13, _, rfl =>
                have e12 : v12 = _ := hphi ⟨12, .guard⟩ (by simp) rfl v12 rfl _ rfl
                subst e12
                exact .inl ⟨rfl, gives_value (v := .slice (some ⟨b, off, none⟩) n c) (w' := W) (by go_simp) ⟨Below.refl _ _, fun u hu => by cases hu; rfl⟩⟩
              | 14, _, rfl =>
                have e12 : v12 = _ := hphi ⟨12, .guard⟩ (by simp) rfl v12 rfl _ rfl
                subst e12
                exact .inl ⟨rfl, gives_value (v := .int .i64 (k : Int)) (w' := W) (by go_simp) ⟨Below.refl _ _, fun u hu => by cases hu; rfl⟩⟩
              | 15, _, rfl =>
                have e13 : v13 = _ := hphi ⟨13, .data⟩ (by simp) rfl v13 rfl _ rfl
                have e14 : v14 = _ := hphi ⟨14, .data⟩ (by simp) rfl v14 rfl _ rfl
                have e12 : v12 = _ := hphi ⟨12, .guard⟩ (by simp) rfl v12 rfl _ rfl
                subst e12 e13 e14
                exact .inl ⟨rfl, gives_value (v := .pointer (some ⟨b, off + k * 4, none⟩)) (w' := W) (by go_simp) ⟨Below.refl _ _, fun u hu => by cases hu; rfl⟩⟩
              | 16, _, rfl =>
                have e15 : v15 = _ := hphi ⟨15, .data⟩ (by simp) rfl v15 rfl _ rfl
                have e12 : v12 = _ := hphi ⟨12, .guard⟩ (by simp) rfl v12 rfl _ rfl
                subst e12 e15
                exact .inl ⟨rfl, gives_value (v := .pointer (some ⟨b, off + k * 4, none⟩)) (w' := W) (by go_simp) ⟨Below.refl _ _, fun u hu => by cases hu; rfl⟩⟩
              | 17, _, rfl =>
                have e16 : v16 = _ := hphi ⟨16, .data⟩ (by simp) rfl v16 rfl _ rfl
                have e12 : v12 = _ := hphi ⟨12, .guard⟩ (by simp) rfl v12 rfl _ rfl
                subst e12 e16
                exact .inl ⟨rfl, gives_value (v := .string lab) (w' := W) (by go_simp) ⟨Below.refl _ _, fun u hu => by cases hu; rfl⟩⟩
              | 18, _, rfl =>
                have e12 : v12 = _ := hphi ⟨12, .guard⟩ (by simp) rfl v12 rfl _ rfl
                subst e12
                exact .inl ⟨rfl, gives_value (v := .string out) (w' := W) (by go_simp) ⟨Below.refl _ _, fun u hu => by cases hu; rfl⟩⟩
              | 19, _, rfl =>
                have e17 : v17 = _ := hphi ⟨17, .data⟩ (by simp) rfl v17 rfl _ rfl
                have e18 : v18 = _ := hphi ⟨18, .data⟩ (by simp) rfl v18 rfl _ rfl
                have e12 : v12 = _ := hphi ⟨12, .guard⟩ (by simp) rfl v12 rfl _ rfl
                subst e12 e17 e18
                exact .inl ⟨rfl, gives_value (v := .bool false) (w' := W) (by go_simp) ⟨Below.refl _ _, fun u hu => by cases hu; rfl⟩⟩
              | 20, _, rfl =>
                have e12 : v12 = _ := hphi ⟨12, .data⟩ (by simp) rfl v12 rfl _ rfl
                have e19 : v19 = _ := hphi ⟨19, .data⟩ (by simp) rfl v19 rfl _ rfl
                have e9 : v9 = _ := hphi ⟨9, .guard⟩ (by simp) rfl v9 rfl _ rfl
                subst e9 e12 e19
                exact .inl ⟨rfl, gives_value (v := .bool false) (w' := W) (by go_simp) ⟨Below.refl _ _, fun u hu => by cases hu; rfl⟩⟩
              | 21, _, rfl =>
                have e9 : v9 = _ := hphi ⟨9, .data⟩ (by simp) rfl v9 rfl _ rfl
                have e20 : v20 = _ := hphi ⟨20, .data⟩ (by simp) rfl v20 rfl _ rfl
                subst e9 e20
                exact .inl ⟨rfl, gives_value (v := .bool false) (w' := W) (by go_simp) ⟨Below.refl _ _, fun u hu => by cases hu; rfl⟩⟩
              | 22, _, rfl =>
                have e21 : v21 = _ := hphi ⟨21, .data⟩ (by simp) rfl v21 rfl _ rfl
                subst e21
                exact .inl ⟨rfl, gives_value (v := .bool false) (w' := W) (by go_simp) ⟨Below.refl _ _, fun u hu => by cases hu; rfl⟩⟩
              | 23, _, rfl =>
                have e22 : v22 = _ := hphi ⟨22, .guard⟩ (by simp) rfl v22 rfl _ rfl
                subst e22
                exact .inr ⟨rfl, Below.refl _ _, fun u hu => by cases hu; rfl⟩
              | 24, _, rfl =>
                have e22 : v22 = _ := hphi ⟨22, .guard⟩ (by simp) rfl v22 rfl _ rfl
                subst e22
                exact .inr ⟨rfl, Below.refl _ _, fun u hu => by cases hu; rfl⟩
              | 25, _, rfl =>
                have e22 : v22 = _ := hphi ⟨22, .guard⟩ (by simp) rfl v22 rfl _ rfl
                subst e22
                exact .inr ⟨rfl, Below.refl _ _, fun u hu => by cases hu; rfl⟩
              | 26, _, rfl =>
                have e24 : v24 = _ := hphi ⟨24, .data⟩ (by simp) rfl v24 rfl _ rfl
                have e25 : v25 = _ := hphi ⟨25, .data⟩ (by simp) rfl v25 rfl _ rfl
                have e22 : v22 = _ := hphi ⟨22, .guard⟩ (by simp) rfl v22 rfl _ rfl
                subst e22 e24 e25
                exact .inr ⟨rfl, Below.refl _ _, fun u hu => by cases hu; rfl⟩
              | 27, _, rfl =>
                have e26 : v26 = _ := hphi ⟨26, .data⟩ (by simp) rfl v26 rfl _ rfl
                have e22 : v22 = _ := hphi ⟨22, .guard⟩ (by simp) rfl v22 rfl _ rfl
                subst e22 e26
                exact .inr ⟨rfl, Below.refl _ _, fun u hu => by cases hu; rfl⟩
              | 28, _, rfl =>
                have e27 : v27 = _ := hphi ⟨27, .data⟩ (by simp) rfl v27 rfl _ rfl
                have e22 : v22 = _ := hphi ⟨22, .guard⟩ (by simp) rfl v22 rfl _ rfl
                subst e22 e27
                exact .inr ⟨rfl, Below.refl _ _, fun u hu => by cases hu; rfl⟩
              | 29, _, rfl =>
                have e23 : v23 = _ := hphi ⟨23, .data⟩ (by simp) rfl v23 rfl _ rfl
                have e28 : v28 = _ := hphi ⟨28, .data⟩ (by simp) rfl v28 rfl _ rfl
                have e22 : v22 = _ := hphi ⟨22, .guard⟩ (by simp) rfl v22 rfl _ rfl
                subst e22 e23 e28
                exact .inr ⟨rfl, Below.refl _ _, fun u hu => by cases hu; rfl⟩
              | 30, _, rfl =>
                have e22 : v22 = _ := hphi ⟨22, .guard⟩ (by simp) rfl v22 rfl _ rfl
                subst e22
                exact .inr ⟨rfl, Below.refl _ _, fun u hu => by cases hu; rfl⟩
              | 31, _, rfl =>
                have e22 : v22 = _ := hphi ⟨22, .guard⟩ (by simp) rfl v22 rfl _ rfl
                subst e22
                exact .inr ⟨rfl, Below.refl _ _, fun u hu => by cases hu; rfl⟩
              | 32, _, rfl =>
                have e30 : v30 = _ := hphi ⟨30, .data⟩ (by simp) rfl v30 rfl _ rfl
                have e31 : v31 = _ := hphi ⟨31, .data⟩ (by simp) rfl v31 rfl _ rfl
                have e22 : v22 = _ := hphi ⟨22, .guard⟩ (by simp) rfl v22 rfl _ rfl
                subst e22 e30 e31
                exact .inr ⟨rfl, Below.refl _ _, fun u hu => by cases hu; rfl⟩
              | 33, _, rfl =>
                have e32 : v32 = _ := hphi ⟨32, .data⟩ (by simp) rfl v32 rfl _ rfl
                have e22 : v22 = _ := hphi ⟨22, .guard⟩ (by simp) rfl v22 rfl _ rfl
                subst e22 e32
                exact .inr ⟨rfl, Below.refl _ _, fun u hu => by cases hu; rfl⟩
              | 34, _, rfl =>
                have e33 : v33 = _ := hphi ⟨33, .data⟩ (by simp) rfl v33 rfl _ rfl
                have e22 : v22 = _ := hphi ⟨22, .guard⟩ (by simp) rfl v22 rfl _ rfl
                subst e22 e33
                exact .inr ⟨rfl, Below.refl _ _, fun u hu => by cases hu; rfl⟩
              | 35, _, rfl =>
                have e29 : v29 = _ := hphi ⟨29, .data⟩ (by simp) rfl v29 rfl _ rfl
                have e34 : v34 = _ := hphi ⟨34, .data⟩ (by simp) rfl v34 rfl _ rfl
                have e22 : v22 = _ := hphi ⟨22, .guard⟩ (by simp) rfl v22 rfl _ rfl
                subst e22 e29 e34
                exact .inr ⟨rfl, Below.refl _ _, fun u hu => by cases hu; rfl⟩
              | i + 36, hi, _ => exact absurd hi (by omega)
            case tailKEEP =>
              intro vs W hv hR hphi
              obtain ⟨v0, v1, v2, v3, v4, v5, v6, v7, v8, v9, v10, v11, v12, v13, v14, v15, v16, v17, v18, v19, v20, v21, v22, v23, v24, v25, v26, v27, v28, v29, v30, v31, v32, v33, v34, v35, rfl⟩ := list36 hv
              simp only [List.zip, List.zipWith, putAll, Act.put, List.setIfInBounds_toArray, List.set, List.drop]
              have e22 : v22 = _ := hphi 22 v22 rfl _ rfl
              have e35 : v35 = _ := hphi 35 v35 rfl _ rfl
              subst e22 e35
              have HBW : Hid (Below w.heap.size w W) := hBel.out.trans (hR.mono hBel.out.size)
              have HBR := Lib.hid hR
              clear hphi hR
              go_wp2
              go_roundw
              case rel => exact ⟨k + 1, out, true, by omega, by go_num, rfl, rfl, HK2.out, HBW.out⟩
              case measure => simp [intOf]; omega
      · obtain ⟨pj, hpj2⟩ : ∃ pj : Int, (j : Int) = pj := ⟨_, rfl⟩
        rw [hpj2] at hpj
        have hne : (pj == (k : Int)) = false := by rw [beq_eq_false_iff_ne]; omega
        have HPO := Lib.hid hpj
        have HK2 : Hid (LstK ts (k + 1) is out) := hK.out.pass HT.out (fun hr => by
          have := hK.out.2 j x (by omega) HPX.out.1 (by rw [HPX.out.2]; exact hr)
          rwa [HPX.out.2] at this)
        clear hpj hpj2
        go_wp2_with fail
        refine wp_region_stableGD 36 (13 :: 14 :: 15 :: 16 :: 17 :: 18 :: 19 :: 20 :: 21 :: 22 :: 23 :: 24 :: 25 :: 26 :: 27 :: 28 :: 29 :: 30 :: 31 :: 32 :: 33 :: 34 :: 35 :: 36 :: 37 :: 38 :: 39 :: 40 :: 41 :: 42 :: 43 :: 44 :: 45 :: 46 :: 47 :: 48 :: []) (by kernel_rfl) (by kernel_rfl) (by kernel_rfl) (fun W => Below wr.heap.size wr W) (fun W W' => Below W.heap.size W W')
          (lstPhi false ((.slice (some ⟨b, off, none⟩) n c) :: (.slice (some ⟨b, off, none⟩) n c) :: (.int .i64 (k : Int)) :: (.pointer (some ⟨b, off + k * 4, none⟩)) :: (.pointer (some ⟨b, off + k * 4, none⟩)) :: (.string lab) :: (.int .i64 pj) :: (.int .i64 (k : Int)) :: (.bool false) :: (.bool false) :: (undef) :: (undef) :: (undef) :: (undef) :: (undef) :: (undef) :: (undef) :: (undef) :: (undef) :: (undef) :: (undef) :: (.bool false) :: (.bool false) :: (undef) :: (undef) :: (undef) :: (undef) :: (undef) :: (undef) :: (undef) :: (undef) :: (undef) :: (undef) :: (undef) :: (undef) :: (undef) :: []) ts lab) (fun W W' h1 h2 => h1.trans (h2.mono h1.size)) (fun i v W W' h hb => lstPhi_keep i v W W' h hb) (Below.refl _ _).drew ?stepNOT ?tailNOT
        case stepNOT =>
          intro i o vs W hi ho hv hR hphi
          obtain ⟨v0, v1, v2, v3, v4, v5, v6, v7, v8, v9, v10, v11, v12, v13, v14, v15, v16, v17, v18, v19, v20, v21, v22, v23, v24, v25, v26, v27, v28, v29, v30, v31, v32, v33, v34, v35, rfl⟩ := list36 hv
          simp only [List.zip, List.zipWith, putAll, Act.put, List.setIfInBounds_toArray, List.set]
          have l0 := (hR.cell (p := ⟨b, off + k * 4, none⟩) (by show b < _; omega)).trans HY0.out
          have hWz := hR.size
          match i, hi, ho with
          | 0, _, rfl =>
            exact .inl ⟨rfl, gives_value (v := .slice (some ⟨b, off, none⟩) n c) (w' := W) (by go_simp) ⟨Below.refl _ _, fun u hu => by cases hu; rfl⟩⟩
          | 1, _, rfl =>
            exact .inl ⟨rfl, gives_value (v := .slice (some ⟨b, off, none⟩) n c) (w' := W) (by go_simp) ⟨Below.refl _ _, fun u hu => by cases hu; rfl⟩⟩
          | 2, _, rfl =>
            exact .inl ⟨rfl, gives_value (v := .int .i64 (k : Int)) (w' := W) (by go_simp) ⟨Below.refl _ _, fun u hu => by cases hu; rfl⟩⟩
          | 3, _, rfl =>
            have e1 : v1 = _ := hphi ⟨1, .data⟩ (by simp) rfl v1 rfl _ rfl
            have e2 : v2 = _ := hphi ⟨2, .data⟩ (by simp) rfl v2 rfl _ rfl
            subst e1 e2
            exact .inl ⟨rfl, gives_value (v := .pointer (some ⟨b, off + k * 4, none⟩)) (w' := W) (by go_simp) ⟨Below.refl _ _, fun u hu => by cases hu; rfl⟩⟩
          | 4, _, rfl =>
            have e3 : v3 = _ := hphi ⟨3, .data⟩ (by simp) rfl v3 rfl _ rfl
            subst e3
            exact .inl ⟨rfl, gives_value (v := .pointer (some ⟨b, off + k * 4, none⟩)) (w' := W) (by go_simp) ⟨Below.refl _ _, fun u hu => by cases hu; rfl⟩⟩
          | 5, _, rfl =>
            have e4 : v4 = _ := hphi ⟨4, .data⟩ (by simp) rfl v4 rfl _ rfl
            subst e4
            exact .inl ⟨rfl, gives_value (v := .string lab) (w' := W) (by go_simp) ⟨Below.refl _ _, fun u hu => by cases hu; rfl⟩⟩
          | 6, _, rfl =>
            have e0 : v0 = _ := hphi ⟨0, .data⟩ (by simp) rfl v0 rfl _ rfl
            have e5 : v5 = _ := hphi ⟨5, .data⟩ (by simp) rfl v5 rfl _ rfl
            subst e0 e5
            refine .inl ⟨rfl, gives_call (f := 68) (args := #[.slice (some ⟨b, off, none⟩) n c, .string lab]) (by go_simp) ((rfind_any (some ⟨b, off, none⟩) n c B ts lab W ((H0.out.below hBel.out hB).below hR (by omega)) (by omega)).mono ?_)⟩
            rintro e W' ⟨rfl, rfl⟩
            exact ⟨_, rfl, Below.refl _ _, fun u hu => by cases hu; rw [HPO.out]⟩
          | 7, _, rfl =>
            exact .inl ⟨rfl, gives_value (v := .int .i64 (k : Int)) (w' := W) (by go_simp) ⟨Below.refl _ _, fun u hu => by cases hu; rfl⟩⟩
          | 8, _, rfl =>
            have e6 : v6 = _ := hphi ⟨6, .data⟩ (by simp) rfl v6 rfl _ rfl
            have e7 : v7 = _ := hphi ⟨7, .data⟩ (by simp) rfl v7 rfl _ rfl
            subst e6 e7
            exact .inl ⟨rfl, gives_value (v := .bool false) (w' := W) (by go_simp) ⟨Below.refl _ _, fun u hu => by cases hu; rfl⟩⟩
          | 9, _, rfl =>
            have e8 : v8 = _ := hphi ⟨8, .data⟩ (by simp) rfl v8 rfl _ rfl
            subst e8
            exact .inl ⟨rfl, gives_value (v := .bool false) (w' := W) (by go_simp) ⟨Below.refl _ _, fun u hu => by cases hu; rfl⟩⟩
          | 10, _, rfl =>
            have e9 : v9 = _ := hphi ⟨9, .guard⟩ (by simp) rfl v9 rfl _ rfl
            subst e9
            exact .inr ⟨rfl, Below.refl _ _, fun u hu => by cases hu; rfl⟩
          | 11, _, rfl =>
            have e10 : v10 = _ := hphi ⟨10, .data⟩ (by simp) rfl v10 rfl _ rfl
            have e9 : v9 = _ := hphi ⟨9, .guard⟩ (by simp) rfl v9 rfl _ rfl
            subst e9 e10
            exact .inr ⟨rfl, Below.refl _ _, fun u hu => by cases hu; rfl⟩
          | 12, _, rfl =>
            have e11 : v11 = _ := hphi ⟨11, .data⟩ (by simp) rfl v11 rfl _ rfl
            have e9 : v9 = _ := hphi ⟨9, .guard⟩ (by simp) rfl v9 rfl _ rfl
            subst e9 e11
            exact .inr ⟨rfl, Below.refl _ _, fun u hu => by cases hu; rfl⟩
          | 13, _, rfl =>
            have e12 : v12 = _ := hphi ⟨12, .guard⟩ (by simp) rfl v12 rfl _ rfl
            subst e12
            exact .inr ⟨rfl, Below.refl _ _, fun u hu => by cases hu; rfl⟩
          | 14, _, rfl =>
            have e12 : v12 = _ := hphi ⟨12, .guard⟩ (by simp) rfl v12 rfl _ rfl
            subst e12
            exact .inr ⟨rfl, Below.refl _ _, fun u hu => by cases hu; rfl⟩
          | 15, _, rfl =>
            have e13 : v13 = _ := hphi ⟨13, .data⟩ (by simp) rfl v13 rfl _ rfl
            have e14 : v14 = _ := hphi ⟨14, .data⟩ (by simp) rfl v14 rfl _ rfl
            have e12 : v12 = _ := hphi ⟨12, .guard⟩ (by simp) rfl v12 rfl _ rfl
            subst e12 e13 e14
            exact .inr ⟨rfl, Below.refl _ _, fun u hu => by cases hu; rfl⟩
          | 16, _, rfl =>
            have e15 : v15 = _ := hphi ⟨15, .data⟩ (by simp) rfl v15 rfl _ rfl
            have e12 : v12 = _ := hphi ⟨12, .guard⟩ (by simp) rfl v12 rfl _ rfl
            subst e12 e15
            exact .inr ⟨rfl, Below.refl _ _, fun u hu => by cases hu; rfl⟩
          | 17, _, rfl =>
            have e16 : v16 = _ := hphi ⟨16, .data⟩ (by simp) rfl v16 rfl _ rfl
            have e12 : v12 = _ := hphi ⟨12, .guard⟩ (by simp) rfl v12 rfl _ rfl
            subst e12 e16
            exact .inr ⟨rfl, Below.refl _ _, fun u hu => by cases hu; rfl⟩
          | 18, _, rfl =>
            have e12 : v12 = _ := hphi ⟨12, .guard⟩ (by simp) rfl v12 rfl _ rfl
            subst e12
            exact .inr ⟨rfl, Below.refl _ _, fun u hu => by cases hu; rfl⟩
          | 19, _, rfl =>
            have e17 : v17 = _ := hphi ⟨17, .data⟩ (by simp) rfl v17 rfl _ rfl
            have e18 : v18 = _ := hphi ⟨18, .data⟩ (by simp) rfl v18 rfl _ rfl
            have e12 : v12 = _ := hphi ⟨12, .guard⟩ (by simp) rfl v12 rfl _ rfl
            subst e12 e17 e18
            exact .inr ⟨rfl, Below.refl _ _, fun u hu => by cases hu; rfl⟩
          | 20, _, rfl =>
            have e12 : v12 = _ := hphi ⟨12, .data⟩ (by simp) rfl v12 rfl _ rfl
            have e19 : v19 = _ := hphi ⟨19, .data⟩ (by simp) rfl v19 rfl _ rfl
            have e9 : v9 = _ := hphi ⟨9, .guard⟩ (by simp) rfl v9 rfl _ rfl
            subst e9 e12 e19
            exact .inr ⟨rfl, Below.refl _ _, fun u hu => by cases hu; rfl⟩
          | 21, _, rfl =>
            have e9 : v9 = _ := hphi ⟨9, .data⟩ (by simp) rfl v9 rfl _ rfl
            have e20 : v20 = _ := hphi ⟨20, .data⟩ (by simp) rfl v20 rfl _ rfl
            subst e9 e20
            exact .inl ⟨rfl, gives_value (v := .bool false) (w' := W) (by go_simp) ⟨Below.refl _ _, fun u hu => by cases hu; rfl⟩⟩
          | 22, _, rfl =>
            have e21 : v21 = _ := hphi ⟨21, .data⟩ (by simp) rfl v21 rfl _ rfl
            subst e21
            exact .inl ⟨rfl, gives_value (v := .bool false) (w' := W) (by go_simp) ⟨Below.refl _ _, fun u hu => by cases hu; rfl⟩⟩
          | 23, _, rfl =>
            have e22 : v22 = _ := hphi ⟨22, .guard⟩ (by simp) rfl v22 rfl _ rfl
            subst e22
            exact .inr ⟨rfl, Below.refl _ _, fun u hu => by cases hu; rfl⟩
          | 24, _, rfl =>
            have e22 : v22 = _ := hphi ⟨22, .guard⟩ (by simp) rfl v22 rfl _ rfl
            subst e22
            exact .inr ⟨rfl, Below.refl _ _, fun u hu => by cases hu; rfl⟩
          | 25, _, rfl =>
            have e22 : v22 = _ := hphi ⟨22, .guard⟩ (by simp) rfl v22 rfl _ rfl
            subst e22
            exact .inr ⟨rfl, Below.refl _ _, fun u hu => by cases hu; rfl⟩
          | 26, _, rfl =>
            have e24 : v24 = _ := hphi ⟨24, .data⟩ (by simp) rfl v24 rfl _ rfl
            have e25 : v25 = _ := hphi ⟨25, .data⟩ (by simp) rfl v25 rfl _ rfl
            have e22 : v22 = _ := hphi ⟨22, .guard⟩ (by simp) rfl v22 rfl _ rfl
            subst e22 e24 e25
            exact .inr ⟨rfl, Below.refl _ _, fun u hu => by cases hu; rfl⟩
          | 27, _, rfl =>
            have e26 : v26 = _ := hphi ⟨26, .data⟩ (by simp) rfl v26 rfl _ rfl
            have e22 : v22 = _ := hphi ⟨22, .guard⟩ (by simp) rfl v22 rfl _ rfl
            subst e22 e26
            exact .inr ⟨rfl, Below.refl _ _, fun u hu => by cases hu; rfl⟩
          | 28, _, rfl =>
            have e27 : v27 = _ := hphi ⟨27, .data⟩ (by simp) rfl v27 rfl _ rfl
            have e22 : v22 = _ := hphi ⟨22, .guard⟩ (by simp) rfl v22 rfl _ rfl
            subst e22 e27
            exact .inr ⟨rfl, Below.refl _ _, fun u hu => by cases hu; rfl⟩
          | 29, _, rfl =>
            have e23 : v23 = _ := hphi ⟨23, .data⟩ (by simp) rfl v23 rfl _ rfl
            have e28 : v28 = _ := hphi ⟨28, .data⟩ (by simp) rfl v28 rfl _ rfl
            have e22 : v22 = _ := hphi ⟨22, .guard⟩ (by simp) rfl v22 rfl _ rfl
            subst e22 e23 e28
            exact .inr ⟨rfl, Below.refl _ _, fun u hu => by cases hu; rfl⟩
          | 30, _, rfl =>
            have e22 : v22 = _ := hphi ⟨22, .guard⟩ (by simp) rfl v22 rfl _ rfl
            subst e22
            exact .inr ⟨rfl, Below.refl _ _, fun u hu => by cases hu; rfl⟩
          | 31, _, rfl =>
            have e22 : v22 = _ := hphi ⟨22, .guard⟩ (by simp) rfl v22 rfl _ rfl
            subst e22
            exact .inr ⟨rfl, Below.refl _ _, fun u hu => by cases hu; rfl⟩
          | 32, _, rfl =>
            have e30 : v30 = _ := hphi ⟨30, .data⟩ (by simp) rfl v30 rfl _ rfl
            have e31 : v31 = _ := hphi ⟨31, .data⟩ (by simp) rfl v31 rfl _ rfl
            have e22 : v22 = _ := hphi ⟨22, .guard⟩ (by simp) rfl v22 rfl _ rfl
            subst e22 e30 e31
            exact .inr ⟨rfl, Below.refl _ _, fun u hu => by cases hu; rfl⟩
          | 33, _, rfl =>
            have e32 : v32 = _ := hphi ⟨32, .data⟩ (by simp) rfl v32 rfl _ rfl
            have e22 : v22 = _ := hphi ⟨22, .guard⟩ (by simp) rfl v22 rfl _ rfl
            subst e22 e32
            exact .inr ⟨rfl, Below.refl _ _, fun u hu => by cases hu; rfl⟩
          | 34, _, rfl =>
            have e33 : v33 = _ := hphi ⟨33, .data⟩ (by simp) rfl v33 rfl _ rfl
            have e22 : v22 = _ := hphi ⟨22, .guard⟩ (by simp) rfl v22 rfl _ rfl
            subst e22 e33
            exact .inr ⟨rfl, Below.refl _ _, fun u hu => by cases hu; rfl⟩
          | 35, _, rfl =>
            have e29 : v29 = _ := hphi ⟨29, .data⟩ (by simp) rfl v29 rfl _ rfl
            have e34 : v34 = _ := hphi ⟨34, .data⟩ (by simp) rfl v34 rfl _ rfl
            have e22 : v22 = _ := hphi ⟨22, .guard⟩ (by simp) rfl v22 rfl _ rfl
            subst e22 e29 e34
            exact .inr ⟨rfl, Below.refl _ _, fun u hu => by cases hu; rfl⟩
          | i + 36, hi, _ => exact absurd hi (by omega)
        case tailNOT =>
          intro vs W hv hR hphi
          obtain ⟨v0, v1, v2, v3, v4, v5, v6, v7, v8, v9, v10, v11, v12, v13, v14, v15, v16, v17, v18, v19, v20, v21, v22, v23, v24, v25, v26, v27, v28, v29, v30, v31, v32, v33, v34, v35, rfl⟩ := list36 hv
          simp only [List.zip, List.zipWith, putAll, Act.put, List.setIfInBounds_toArray, List.set, List.drop]
          have e22 : v22 = _ := hphi 22 v22 rfl _ rfl
          have e35 : v35 = _ := hphi 35 v35 rfl _ rfl
          subst e22 e35
          have HBW : Hid (Below w.heap.size w W) := hBel.out.trans (hR.mono hBel.out.size)
          have HBR := Lib.hid hR
          clear hphi hR
          go_wp2
          go_roundw
          case rel => exact ⟨k + 1, out, is, by omega, by go_num, rfl, rfl, HK2.out, HBW.out⟩
          case measure => simp [intOf]; omega
    · have hlz : ¬ (k : Int) < (n : Int) := by omega
      have HE := Lib.hid (hK.out.end_ (by rw [HL.out]; omega))
      go_wp2
      go_ret2
      exact ⟨out, is, rfl, HE.out, hBel.out⟩
end Go.Proofs.YtddlohbhchjjhaaGreatDoor
