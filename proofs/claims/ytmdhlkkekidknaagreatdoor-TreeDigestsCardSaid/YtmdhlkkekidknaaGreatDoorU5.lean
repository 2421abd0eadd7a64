/-
  Lemmas: Blocks that are left alone. Over any program. A digest's words, read byte by byte; in plain Lean. GetInt and GetText, what a number or a text at the beginning of a string is. The program's reader of objects: number, string, digest; on what was written. The program's reader of objects: entry, and lists of entries and of digests; on what was written. Drawn regions, some of whose values are described, not given. Lists of a known length, taken apart. The program's object.check on valid objects. Comparing digests: digest.Compare and cordwoodref02.Compare.
-/
import Derived.Laws.BitsLemmas
import Derived.IntWalk
import Derived.RegionTactic
import Derived.BigRegion
import Derived.Deep.QuietTactic
import Derived.BigQuiet
import Derived.Deep.CutRange
import Derived.Test.YtmdhlkkekidknaaGreatDoorU4

namespace Go.Proofs.YtmdhlkkekidknaaGreatDoor
open Go.RowKit

structure Gb (p : Nat → Prop) (w w' : World) : Prop where
  os : w'.os = w.os
  tape : w'.tape = w.tape
  output : w'.output = w.output
  size : w.heap.size ≤ w'.heap.size
  block : ∀ k, k < w.heap.size → ¬ p k → w'.heap[k]? = w.heap[k]?
section
variable {p q : Nat → Prop} {a b c : World}
theorem Gb.refl (p : Nat → Prop) (w : World) : Gb p w w := ⟨rfl, rfl, rfl, Nat.le_refl _, fun _ _ _ => rfl⟩
theorem Gb.trans (h : Gb p a b) (k : Gb p b c) : Gb p a c := ⟨k.os.trans h.os, k.tape.trans h.tape, k.output.trans h.output, Nat.le_trans h.size k.size, fun i hi hp => (k.block i (Nat.lt_of_lt_of_le hi h.size) hp).trans (h.block i hi hp)⟩
theorem Gb.mono (h : Gb p a b) (hq : ∀ k, k < a.heap.size → p k → q k) : Gb q a b := ⟨h.os, h.tape, h.output, h.size, fun i hi hn => h.block i hi (fun hp => hn (hq i hi hp))⟩
theorem Gb.of_below (h : Below a.heap.size a b) : Gb p a b := ⟨h.os, h.tape, h.output, h.size, fun i hi _ => h.block i hi⟩
theorem Gb.below {B : Nat} (h : Gb p a b) (hB : B ≤ a.heap.size) (hp : ∀ k, k < B → ¬ p k) : Below B a b := ⟨h.os, h.tape, h.output, h.size, fun i hi => h.block i (by omega) (hp i hi)⟩
theorem Gb.set {w : World} {x : Nat} (hx : p x) (o : Nat) (v : Value) : Gb p w (w.setCell ⟨x, o, none⟩ v) := ⟨rfl, rfl, rfl, by simp, fun i _ hn => Below.heap_setCell w ⟨x, o, none⟩ v i (fun e => hn (by have e' : i = x := e; rw [e']; exact hx))⟩
theorem Gb.after {x : Nat} (h : Gb p a b) (hx : a.heap.size ≤ x) (o : Nat) (v : Value) : Gb p a (b.setCell ⟨x, o, none⟩ v) := ⟨h.os, h.tape, h.output, by have := h.size; simpa using this, fun i hi hn => (Below.heap_setCell b ⟨x, o, none⟩ v i (fun e => by have e' : i = x := e; omega)).trans (h.block i hi hn)⟩
theorem Gb.bk {x : Nat} {t : TypeId} {cs : Array Value} (h : Gb p a b) (hk : Bk a x t cs) (hx : ¬ p x) : Bk b x t cs := (h.block x hk.lt hx).trans hk
end

theorem bk_set10 {w : World} {rb : Nat} {t : TypeId} {x y : Value} (h : Bk w rb t #[x, y]) (x' y' : Value) : Bk ((w.setCell ⟨rb, 1, none⟩ y').setCell ⟨rb, 0, none⟩ x') rb t #[x', y'] := by
  have := (h.set 1 y').set 0 x'
  simpa using this
theorem gb_set10 (w : World) (rb : Nat) (x' y' : Value) : Gb (fun g => g = rb) w ((w.setCell ⟨rb, 1, none⟩ y').setCell ⟨rb, 0, none⟩ x') :=
  (Gb.set (p := fun g => g = rb) (x := rb) rfl 1 y').trans (Gb.set (p := fun g => g = rb) (x := rb) rfl 0 x')

theorem Gb.sl {p : Nat → Prop} {w w' : World} {B size n : Nat} {A : Option Addr} {xs : List Value} (h : Gb p w w') (hs : Sl w B size A n xs) (hB : B ≤ w.heap.size) (hp : ∀ k, k < B → ¬ p k) : Sl w' B size A n xs := hs.below (h.below hB hp) (Nat.le_refl _)
end Go.Proofs.YtmdhlkkekidknaaGreatDoor

namespace Go.Proofs.YtmdhlkkekidknaaGreatDoor
open Go.RowKit

def wd1 (l : Bytes) (k : Nat) : Nat := valF 0 (l.take (min k 8))
def wd2 (l : Bytes) (k : Nat) : Nat := valF 0 ((l.drop 8).take (k - 8))
theorem valF_snoc (l : Bytes) (b : UInt8) : valF 0 (l ++ [b]) = valF 0 l * 256 + b.toNat := by simp [valF]
theorem wd1_step {l : Bytes} {k : Nat} {b : UInt8} (h : l[k]? = some b) (hk : k < 8) : wd1 l (k + 1) = wd1 l k * 256 + b.toNat ∧ wd2 l (k + 1) = wd2 l k := by
  unfold wd1 wd2
  rw [show min (k + 1) 8 = k + 1 by omega, show min k 8 = k by omega, take_snoc h, valF_snoc, show k + 1 - 8 = 0 by omega, show k - 8 = 0 by omega]
  exact ⟨rfl, rfl⟩
theorem wd2_step {l : Bytes} {k : Nat} {b : UInt8} (h : l[k]? = some b) (hk : 8 ≤ k) : wd1 l (k + 1) = wd1 l k ∧ wd2 l (k + 1) = wd2 l k * 256 + b.toNat := by
  unfold wd1 wd2
  have h' : (l.drop 8)[k - 8]? = some b := by rw [List.getElem?_drop, show 8 + (k - 8) = k by omega]; exact h
  rw [show min (k + 1) 8 = 8 by omega, show min k 8 = 8 by omega, show k + 1 - 8 = k - 8 + 1 by omega, take_snoc h', valF_snoc]
  exact ⟨rfl, rfl⟩
theorem wd1_lt {l : Bytes} {k : Nat} (hk : k < 8) : wd1 l k < 256 ^ 7 := by
  have h := valF_lt (l.take (min k 8)) 0
  have hl : (l.take (min k 8)).length ≤ 7 := by rw [List.length_take]; omega
  have := Nat.pow_le_pow_right (n := 256) (by omega) hl
  unfold wd1; omega
theorem wd2_lt {l : Bytes} {k : Nat} (hk : k < 16) : wd2 l k < 256 ^ 7 := by
  have h := valF_lt ((l.drop 8).take (k - 8)) 0
  have hl : ((l.drop 8).take (k - 8)).length ≤ 7 := by rw [List.length_take]; omega
  have := Nat.pow_le_pow_right (n := 256) (by omega) hl
  unfold wd2; omega
theorem w_end (l : Bytes) : dg l = ((wd1 l 16 : Int), (wd2 l 16 : Int)) := rfl
theorem byte_get {s : ByteArray} {k : Nat} (h : k < s.size) : (toL s)[k]? = some s[k] := by
  rw [List.getElem?_eq_getElem (by rw [← size_toL]; exact h)]; rfl

theorem or_join {x y : Nat} (hx : x < 256 ^ 7) (hy : y < 256) : bits .or .u64 ((x : Int) * 256) (y : Int) = (x : Int) * 256 + (y : Int) :=
  bits_join .u64 64 (by decide) (fun n h0 h1 => IntWalk.u64_in n (by omega)) 8 ((x : Int) * 256) (y : Int) (by omega) (by omega) (by omega) (by omega) (by omega) (by omega)

end Go.Proofs.YtmdhlkkekidknaaGreatDoor

namespace Go.Proofs.YtmdhlkkekidknaaGreatDoor
open Go.RowKit

def RetI (r : Nat × Nat × Int) (w : World) (e : Ending) (w' : World) : Prop := e = .returned (.tuple #[.int .i64 r.1, .int .i64 r.2.1, .int .i64 r.2.2]) ∧ w = w'
theorem drop_byte {s : ByteArray} {k : Nat} (h : k < s.size) : (toL s).drop k = s[k] :: (toL s).drop (k + 1) := by
  rw [List.drop_eq_getElem_cons (by rw [← size_toL]; exact h)]; rfl

set_option maxRecDepth 100000 in
set_option maxHeartbeats 2000000 in
theorem getInt_any (s : ByteArray) (w : World) : Calls Tryz.prog 199 #[.string s] w (RetI (getI (toL s)) w) := by
  have HR : Hid (∀ r, getI (toL s) = r → ∀ e w', RetI r w e w' → RetI (getI (toL s)) w e w') := fun r h e w' hh => by rw [h]; exact hh
  have H0 : Hid (getI (toL s) = gi 6 0 0 1 ((toL s).drop 0)) := rfl
  go_enter Tryz.func199, Tryz.ntmps199
  go_wp2
  go_loop [5, 6, 9] (fun n u i => ∃ k a b : Nat, k ≤ 6 ∧ i = .int .i64 k ∧ n = .int .i64 a ∧ u = .int .i64 b ∧ 1 ≤ b ∧ b ≤ 128 ^ 6 ∧ Hid (b = 128 ^ k) ∧ a < b ∧ Hid (getI (toL s) = gi (6 - k) k a b ((toL s).drop k))) (fun _ _ i => 6 - (intOf i).toNat)
  case atStart => exact ⟨0, 0, 1, by omega, rfl, rfl, rfl, by omega, by omega, rfl, by omega, H0.out⟩
  case round =>
    obtain ⟨k, a, b, hk, rfl, rfl, rfl, hb1, hb2, hb, hab, hg⟩ := hrel
    by_cases hlt : k < 6
    · have hf : Hid (6 - k = 5 - k + 1) := by show _ = _; omega
      by_cases hsz : k < s.size
      · have hsz' : ¬ (s.size : Int) ≤ (k : Int) := by omega
        have hbn : Hid (128 * b = 128 ^ (k + 1)) := by show _ = _; rw [hb.out, Nat.pow_succ, Nat.mul_comm]
        have hbp : 128 * b ≤ 128 ^ 6 := by rw [hbn.out]; exact Nat.pow_le_pow_right (by omega) (by omega)
        have hst : Hid (getI (toL s) = if s[k].toNat < 128 then (if (s[k].toNat = 0 ∧ 0 < k) ∨ 1099511627776 < a + s[k].toNat * b then (0, 0, 13) else (a + s[k].toNat * b, k + 1, 0)) else gi (5 - k) (k + 1) (a + (s[k].toNat - 128) * b) (b * 128) ((toL s).drop (k + 1))) := by
          show _ = _
          rw [hg.out, hf.out, drop_byte hsz, gi]
        have hd : s[k].toNat < 256 := s[k].toNat_lt
        generalize hdd : s[k].toNat = d at *
        have hdi : (s[k].toNat : Int) = (d : Int) := by rw [hdd]
        clear hdd
        by_cases h128 : d < 128
        · obtain ⟨p, hp⟩ : ∃ p, d * b = p := ⟨_, rfl⟩
          have hpb : p ≤ 128 * b := by rw [← hp]; exact Nat.mul_le_mul_right _ (by omega)
          have hpi : (d : Int) * (b : Int) = (p : Int) := by rw [← hp]; simp
          have h128i : ¬ (128 : Int) ≤ (d : Int) := by omega
          rw [hp, if_pos h128] at hst
          clear hp
          by_cases hmx : 1099511627776 < a + p
          · have hmxi : (1099511627776 : Int) < (a : Int) + (p : Int) := by omega
            have hfin : Hid (getI (toL s) = (0, 0, 13)) := by show _ = _; rw [hst.out, if_pos (.inr hmx)]
            clear hst hg
            by_cases hd0 : d = 0
            · have hd0i : ((d : Int) == 0) = true := by rw [beq_iff_eq]; omega
              clear hd0
              by_cases hk0 : (0 : Int) < (k : Int)
              all_goals
                go_wp2
                go_ret3
                exact HR.out _ hfin.out _ _ ⟨rfl, rfl⟩
            · have hd0i : ((d : Int) == 0) = false := by rw [beq_eq_false_iff_ne]; omega
              clear hd0
              go_wp2
              go_ret3
              exact HR.out _ hfin.out _ _ ⟨rfl, rfl⟩
          · have hmxi : ¬ (1099511627776 : Int) < (a : Int) + (p : Int) := by omega
            by_cases hd0 : d = 0
            · have hd0i : ((d : Int) == 0) = true := by rw [beq_iff_eq]; omega
              by_cases hk0 : 0 < k
              · have hk0i : (0 : Int) < (k : Int) := by omega
                have hfin : Hid (getI (toL s) = (0, 0, 13)) := by show _ = _; rw [hst.out, if_pos (.inl ⟨hd0, hk0⟩)]
                clear hst hg hd0
                go_wp2
                go_ret3
                exact HR.out _ hfin.out _ _ ⟨rfl, rfl⟩
              · have hk0i : ¬ (0 : Int) < (k : Int) := by omega
                have hfin : Hid (getI (toL s) = (a + p, k + 1, 0)) := by show _ = _; rw [hst.out, if_neg (by omega)]
                clear hst hg hd0
                go_wp2
                go_ret3
                exact HR.out _ hfin.out _ _ ⟨rfl, rfl⟩
            · have hd0i : ((d : Int) == 0) = false := by rw [beq_eq_false_iff_ne]; omega
              have hfin : Hid (getI (toL s) = (a + p, k + 1, 0)) := by show _ = _; rw [hst.out, if_neg (by omega)]
              clear hst hg hd0
              go_wp2
              go_ret3
              exact HR.out _ hfin.out _ _ ⟨rfl, rfl⟩
        · obtain ⟨p, hp⟩ : ∃ p, (d - 128) * b = p := ⟨_, rfl⟩
          have hpb : p + b ≤ 128 * b := by
            have : (d - 128 + 1) * b ≤ 128 * b := Nat.mul_le_mul_right _ (by omega)
            rw [Nat.add_mul, hp] at this; omega
          have hpi : ((d : Int) - 128) * (b : Int) = (p : Int) := by
            rw [← hp, Int.natCast_mul, Int.ofNat_sub (by omega)]; rfl
          have h128i : (128 : Int) ≤ (d : Int) := by omega
          rw [hp, if_neg h128] at hst
          clear hp
          go_wp2
          go_round
          case rel => exact ⟨k + 1, a + p, b * 128, by omega, by go_num, by go_num, by go_num, by omega, by omega, by show _ = _; rw [Nat.mul_comm]; exact hbn.out, by omega, by show _ = _; rw [hst.out, show 6 - (k + 1) = 5 - k by omega]⟩
          case measure => simp [intOf]; omega
      · have hsz' : (s.size : Int) ≤ (k : Int) := by omega
        have hfin : Hid (getI (toL s) = (0, 0, 12)) := by
          show _ = _
          rw [hg.out, hf.out, List.drop_of_length_le (by rw [← size_toL]; omega), gi]
        clear hg
        go_wp2
        go_ret3
        exact HR.out _ hfin.out _ _ ⟨rfl, rfl⟩
    · have hfin : Hid (getI (toL s) = (0, 0, 13)) := by
        show _ = _
        rw [hg.out, show 6 - k = 0 by omega, gi]
      clear hg
      go_wp2
      go_ret3
      exact HR.out _ hfin.out _ _ ⟨rfl, rfl⟩
def RetT (r : Bytes × Nat × Int) (w : World) (e : Ending) (w' : World) : Prop := e = .returned (.tuple #[.string (ofL r.1), .int .i64 r.2.1, .int .i64 r.2.2]) ∧ w = w'
theorem extract_ofL (s : ByteArray) (a n : Nat) : s.extract a (a + n) = ofL (((toL s).drop a).take n) := by
  apply ByteArray.ext
  apply Array.toList_inj.1
  show (s.extract a (a + n)).data.toList = ((toL s).drop a).take n
  rw [extract_list, Nat.add_sub_cancel_left]; rfl

set_option maxRecDepth 100000 in
set_option maxHeartbeats 2000000 in
theorem getText_any (s : ByteArray) (hs : s.size ≤ maxLen) (w : World) : Calls Tryz.prog 200 #[.string s] w (RetT (getT (toL s)) w) := by
  unfold maxLen at hs
  have HR : Hid (∀ r, getT (toL s) = r → ∀ e w', RetT r w e w' → RetT (getT (toL s)) w e w') := fun r h e w' hh => by rw [h]; exact hh
  have HD : Hid (getT (toL s) = if (getI (toL s)).2.2 ≠ 0 then ([], 0, (getI (toL s)).2.2) else if 65536 < (getI (toL s)).1 then ([], 0, 13) else if (toL s).length < (getI (toL s)).2.1 + (getI (toL s)).1 then ([], 0, 12) else (((toL s).drop (getI (toL s)).2.1).take (getI (toL s)).1, (getI (toL s)).2.1 + (getI (toL s)).1, 0)) := rfl
  rw [← size_toL] at HD
  have hle := getI_le (toL s)
  rw [← size_toL] at hle
  have hmx := getI_max (toL s)
  go_enter Tryz.func200, Tryz.ntmps200
  go_wp2_with fail
  refine (getInt_any s _).mono ?_
  generalize getI (toL s) = r at *
  obtain ⟨n, k, e⟩ := r
  rintro e' w' ⟨rfl, rfl⟩
  simp only at hle hmx HD ⊢
  by_cases he : e = 0
  · subst he
    by_cases hn : 65536 < n
    · have hni : (65536 : Int) < (n : Int) := by omega
      have hfin : Hid (getT (toL s) = ([], 0, 13)) := by show _ = _; rw [HD.out, if_neg (by simp), if_pos hn]
      clear HD
      go_wp2
      go_ret3
      exact HR.out _ hfin.out _ _ ⟨rfl, rfl⟩
    · have hni : ¬ (65536 : Int) < (n : Int) := by omega
      by_cases hl : s.size < k + n
      · have hli : (s.size : Int) - (k : Int) < (n : Int) := by omega
        have hfin : Hid (getT (toL s) = ([], 0, 12)) := by show _ = _; rw [HD.out, if_neg (by simp), if_neg hn, if_pos hl]
        clear HD
        go_wp2
        go_ret3
        exact HR.out _ hfin.out _ _ ⟨rfl, rfl⟩
      · have hli : ¬ (s.size : Int) - (k : Int) < (n : Int) := by omega
        have hfin : Hid (getT (toL s) = (((toL s).drop k).take n, k + n, 0)) := by show _ = _; rw [HD.out, if_neg (by simp), if_neg hn, if_neg hl]
        have HX := Lib.hid (extract_ofL s k n)
        clear HD
        go_wp2
        go_ret3
        exact HR.out _ hfin.out _ _ ⟨by rw [← HX.out]; rfl, rfl⟩
  · have hne : (e != 0) = true := by rw [bne_iff_ne]; exact he
    have hfin : Hid (getT (toL s) = ([], 0, e)) := by show _ = _; rw [HD.out, if_pos he]
    clear HD he
    go_wp2
    go_ret3
    exact HR.out _ hfin.out _ _ ⟨rfl, rfl⟩
end Go.Proofs.YtmdhlkkekidknaaGreatDoor

namespace Go.Proofs.YtmdhlkkekidknaaGreatDoor
open Go.RowKit

theorem Bk.two {w : World} {b : Nat} {t : TypeId} {x y : Value} (h : Bk w b t #[x, y]) : w.cell? ⟨b, 0, none⟩ = some x ∧ w.cell? ⟨b, 1, none⟩ = some y ∧ w.frozen? ⟨b, 0, none⟩ = false ∧ w.frozen? ⟨b, 1, none⟩ = false := by
  have h0 := h.cell 0; have h1 := h.cell 1
  simp at h0 h1
  exact ⟨h0, h1, h.free 0, h.free 1⟩
theorem extract_app (x r : Bytes) : (ofL (x ++ r)).extract x.length (ofL (x ++ r)).size = ofL r := by
  apply toL_inj
  show ((ofL (x ++ r)).extract x.length (ofL (x ++ r)).size).data.toList = r
  have h : (ofL (x ++ r)).data.toList = x ++ r := rfl
  rw [ByteArray.data_extract, Array.toList_extract, List.extract_eq_take_drop, h, List.drop_left, List.take_of_length_le]
  rw [size_ofL, List.length_append]; omega
def Rdr (w : World) (b : Nat) (r : Bytes) : Prop := Bk w b 180 #[.string (ofL r), .bool false]
def RdE (v : Value) (b : Nat) (r : Bytes) (w : World) (e : Ending) (w' : World) : Prop := e = .returned v ∧ Rdr w' b r ∧ Gb (fun g => g = b) w w'

set_option maxRecDepth 100000 in
set_option maxHeartbeats 1000000 in
theorem onumber_any (b k : Nat) (r : Bytes) (w : World) (hk : Rdr w b (encN k ++ r)) (hm : k ≤ 1099511627776) (hl : (encN k ++ r).length ≤ 1000000) :
    Calls Tryz.prog 156 #[.pointer (some ⟨b, 0, none⟩)] w (RdE (.int .i64 k) b r w) := by
  unfold Rdr at hk
  have HX := Lib.hid (extract_app (encN k) r)
  have hms : (encN k).length ≤ (encN k ++ r).length := by rw [List.length_append]; omega
  obtain ⟨s, hs⟩ : ∃ s, ofL (encN k ++ r) = s := ⟨_, rfl⟩
  rw [hs] at hk HX
  have hsz : s.size = (encN k ++ r).length := by rw [← hs]; rfl
  have HG := Lib.hid (getInt_any s w)
  rw [show getI (toL s) = (k, (encN k).length, 0) by rw [← hs, toL_ofL]; exact getI_enc hm r] at HG
  rw [← hsz] at hms
  obtain ⟨m, hme⟩ : ∃ m, (encN k).length = m := ⟨_, rfl⟩
  rw [hme] at HX HG hms
  have hmi : (m : Int) ≤ (s.size : Int) := by omega
  have hsm : (s.size : Int) ≤ 1000000 := by omega
  have HK := Lib.hid hk
  obtain ⟨x0, x1, f0, f1⟩ := hk.two
  clear hk hs hsz hme hms
  go_enter Tryz.func156, Tryz.ntmps156
  go_wp2_with fail
  refine HG.out.mono ?_
  rintro e w' ⟨rfl, rfl⟩
  go_wp2_with fail
  go_ret
  refine ⟨rfl, ?_, gb_set10 _ _ _ _⟩
  show Bk _ _ _ #[.string (ofL r), .bool false]
  rw [← HX.out]
  exact bk_set10 HK.out _ _
set_option maxRecDepth 100000 in
set_option maxHeartbeats 1000000 in
theorem ostring_any (b : Nat) (x : ByteArray) (r : Bytes) (w : World) (hk : Rdr w b (encT (toL x) ++ r)) (hm : x.size ≤ 65536) (hl : (encT (toL x) ++ r).length ≤ 1000000) :
    Calls Tryz.prog 157 #[.pointer (some ⟨b, 0, none⟩)] w (RdE (.string x) b r w) := by
  unfold Rdr at hk
  have HX := Lib.hid (extract_app (encT (toL x)) r)
  have hms : (encT (toL x)).length ≤ (encT (toL x) ++ r).length := by rw [List.length_append]; omega
  obtain ⟨s, hs⟩ : ∃ s, ofL (encT (toL x) ++ r) = s := ⟨_, rfl⟩
  rw [hs] at hk HX
  have hsz : s.size = (encT (toL x) ++ r).length := by rw [← hs]; rfl
  have HG := Lib.hid (getText_any s (by unfold maxLen; omega) w)
  rw [show getT (toL s) = (toL x, (encT (toL x)).length, 0) by rw [← hs, toL_ofL]; exact getT_enc (by rw [← size_toL]; exact hm) r] at HG
  rw [← hsz] at hms
  obtain ⟨m, hme⟩ : ∃ m, (encT (toL x)).length = m := ⟨_, rfl⟩
  rw [hme] at HX HG hms
  have hmi : (m : Int) ≤ (s.size : Int) := by omega
  have hsm : (s.size : Int) ≤ 1000000 := by omega
  have HK := Lib.hid hk
  obtain ⟨x0, x1, f0, f1⟩ := hk.two
  clear hk hs hsz hme hms
  unfold RetT at HG
  simp only [ofL_toL] at HG
  go_enter Tryz.func157, Tryz.ntmps157
  go_wp2_with fail
  refine HG.out.mono ?_
  rintro e w' ⟨rfl, rfl⟩
  go_wp2_with fail
  go_ret
  refine ⟨rfl, ?_, gb_set10 _ _ _ _⟩
  show Bk _ _ _ #[.string (ofL r), .bool false]
  rw [← HX.out]
  exact bk_set10 HK.out _ _
set_option maxRecDepth 100000 in
set_option maxHeartbeats 2000000 in
theorem odigest_any (b : Nat) (d : Dig) (r : Bytes) (w : World) (hk : Rdr w b (digB d ++ r)) (hd : WfD d) (hl : (digB d ++ r).length ≤ 1000000) :
    Calls Tryz.prog 160 #[.pointer (some ⟨b, 0, none⟩)] w (RdE (digV d) b r w) := by
  unfold Rdr at hk
  have HX := Lib.hid (extract_app (digB d) r)
  rw [digB_len] at HX
  have h16 : 16 ≤ (digB d ++ r).length := by rw [List.length_append, digB_len]; omega
  obtain ⟨s, hs⟩ : ∃ s, ofL (digB d ++ r) = s := ⟨_, rfl⟩
  rw [hs] at hk HX
  have hsz : s.size = (digB d ++ r).length := by rw [← hs]; rfl
  have HD : Hid (dg (toL s) = d) := by show _ = _; rw [← hs, toL_ofL]; exact dg_digB hd r
  rw [← hsz] at h16 hl
  have h16i : ¬ (s.size : Int) < 16 := by omega
  have h16j : (16 : Int) ≤ (s.size : Int) := by omega
  have HE := Lib.hid (w_end (toL s))
  have hbw := hk.lt
  obtain ⟨W0, hW0⟩ : ∃ W0, (w.alloc (.cells #[.int .u64 0, .int .u64 0] 30)).alloc (.cells #[.int .u64 0, .int .u64 0] 30) = W0 := ⟨_, rfl⟩
  have HK0 : Hid (Bk W0 w.heap.size 30 #[.int .u64 0, .int .u64 0]) := by rw [← hW0]; exact (Bk.new w _ _).alloc _
  have HK1 : Hid (Bk W0 (w.heap.size + 1) 30 #[.int .u64 0, .int .u64 0]) := by
    rw [← hW0]
    have := Bk.new (w.alloc (.cells #[.int .u64 0, .int .u64 0] 30)) 30 #[.int .u64 0, .int .u64 0]
    rwa [World.size_alloc] at this
  have HB : Hid (Below w.heap.size w W0) := by rw [← hW0]; exact ((Below.refl _ w).alloc (Nat.le_refl _) _).alloc (by simp) _
  have HR := Lib.hid hk
  obtain ⟨x0, x1, _, _⟩ := (hk.below HB.out hbw).two
  clear hk hs hsz
  go_enter Tryz.func160, Tryz.ntmps160
  go_wp2_with fail
  clear hW0
  go_loopw [15] (fun i wr => ∃ k : Nat, k ≤ 16 ∧ i = .int .i64 k ∧ Hid (Bk wr w.heap.size 30 #[.int .u64 0, .int .u64 0]) ∧ Hid (Bk wr (w.heap.size + 1) 30 #[.int .u64 (wd1 (toL s) k), .int .u64 (wd2 (toL s) k)]) ∧ Hid (Below w.heap.size w wr)) (fun i _ => 16 - (intOf i).toNat)
  case atStart => exact ⟨0, by omega, rfl, HK0.out, HK1.out, HB.out⟩
  case round =>
    obtain ⟨k, hk, rfl, J0, J1, hB⟩ := hrel
    clear x0 x1
    obtain ⟨x0, x1, xf, _⟩ := (HR.out.below hB.out hbw).two
    by_cases hlt : k < 16
    · have hsz : k < s.size := by omega
      have hd : s[k].toNat < 256 := s[k].toNat_lt
      have hki : (k : Int) < 16 := by omega
      by_cases h8 : k < 8
      · have hx := wd1_lt (l := toL s) h8
        obtain ⟨e1, e2⟩ := wd1_step (byte_get hsz) h8
        have HE1 := Lib.hid e1; have HE2 := Lib.hid e2
        have y0 := J1.out.cell 0; have y1 := J1.out.cell 1; have f0 := J1.out.free 0
        simp at y0 y1
        clear e1 e2 HX HD
        have hq : (k : Int) / 8 = 0 := by omega
        generalize wd1 (toL s) k = x at *
        generalize wd2 (toL s) k = y at *
        have hor := or_join (x := x) (y := s[k].toNat) (by omega) (by omega)
        go_wp2_with fail
        go_region
        go_wp2_with fail
        go_roundw
        case rel => exact ⟨k + 1, by omega, by go_num, J0.out.far (p := ⟨w.heap.size + 1, 0, none⟩) (by simp) _, by show Bk _ _ _ _; rw [HE1.out, HE2.out]; exact J1.out.set 0 _, (hB.out.setCell (p := ⟨w.heap.size + 1, 0, none⟩) (by simp) _).drew⟩
        case measure => simp [intOf]; omega
      · have hx := wd2_lt (l := toL s) hlt
        obtain ⟨e1, e2⟩ := wd2_step (byte_get hsz) (by omega)
        have HE1 := Lib.hid e1; have HE2 := Lib.hid e2
        have y0 := J1.out.cell 0; have y1 := J1.out.cell 1; have f1 := J1.out.free 1
        simp at y0 y1
        clear e1 e2 HX HD
        have hq : (k : Int) / 8 = 1 := by omega
        generalize wd1 (toL s) k = x at *
        generalize wd2 (toL s) k = y at *
        have hor := or_join (x := y) (y := s[k].toNat) (by omega) (by omega)
        go_wp2_with fail
        go_region
        go_wp2_with fail
        go_roundw
        case rel => exact ⟨k + 1, by omega, by go_num, J0.out.far (p := ⟨w.heap.size + 1, 1, none⟩) (by simp) _, by show Bk _ _ _ _; rw [HE1.out, HE2.out]; exact J1.out.set 1 _, (hB.out.setCell (p := ⟨w.heap.size + 1, 1, none⟩) (by simp) _).drew⟩
        case measure => simp [intOf]; omega
    · have hke : Hid (k = 16) := by show _ = _; omega
      have hki : ¬ (k : Int) < 16 := by omega
      have HX2 : Hid (d = ((wd1 (toL s) k : Int), (wd2 (toL s) k : Int))) := by show _ = _; rw [← HD.out, hke.out]; exact HE.out
      have HRr := Lib.hid (HR.out.below hB.out hbw)
      obtain ⟨y0, y1, _, _⟩ := J1.out.two
      obtain ⟨z0, z1, f0, f1⟩ := J0.out.two
      generalize wd1 (toL s) k = x at *
      generalize wd2 (toL s) k = y at *
      clear hlt HD
      have hne1 : b ≠ w.heap.size := by omega
      have hne2 : b ≠ w.heap.size + 1 := by omega
      go_wp2_with fail
      refine bodyPost_ret (res_cellD Tryz.results160 rfl ((J0.out.far (p := ⟨b, 0, none⟩) hne1.symm _).set2 _ _)) rfl ⟨by rw [HX2.out]; rfl, ?_, ?_⟩
      · show Bk _ _ _ #[.string (ofL r), .bool false]
        rw [← HX.out]
        have := (((HRr.out.set 0 (.string (s.extract 16 s.size))).far (p := ⟨w.heap.size, 0, none⟩) hne1 (.int .u64 x)).far (p := ⟨w.heap.size, 1, none⟩) hne1 (.int .u64 y))
        simpa using this
      · exact ((((Gb.of_below hB.out).trans (Gb.set (p := fun g => g = b) (x := b) rfl 0 _)).after (Nat.le_refl _) 0 _).after (Nat.le_refl _) 1 _)
end Go.Proofs.YtmdhlkkekidknaaGreatDoor

namespace Go.Proofs.YtmdhlkkekidknaaGreatDoor
open Go.RowKit

def enC (e : Ent) : List Value := [.string e.nm, .bool e.dir, .int .u64 e.dg.1, .int .u64 e.dg.2]
def entV (e : Ent) : Value := .agg #[.string e.nm, .bool e.dir, .int .u64 e.dg.1, .int .u64 e.dg.2]
def dgC (d : Dig) : List Value := [.int .u64 d.1, .int .u64 d.2]
theorem enC_len (e : Ent) : (enC e).length = 4 := rfl
theorem dgC_len (d : Dig) : (dgC d).length = 2 := rfl
theorem infoEnt : (Tryz.prog.info? 102).map (fun i => (i.zero, i.size, i.bytes)) = some (some (.agg #[.string ⟨#[]⟩, .bool false, .int .u64 0, .int .u64 0]), 4, 40) := by kernel_rfl
theorem infoDg : (Tryz.prog.info? 30).map (fun i => (i.zero, i.size, i.bytes)) = some (some (.agg #[.int .u64 0, .int .u64 0]), 2, 16) := by kernel_rfl
theorem res_cellE {fn : Func} {c : Tmp} (h : fn.results = #[.cell c 102]) {w : World} {a : Array Value} {b : Nat} {x y z u : Value} (ha : a[c]?.getD undef = .pointer (some ⟨b, 0, none⟩)) (hk : Bk w b 102 #[x, y, z, u]) :
    (results fn a).run Tryz.prog w = .ok (.agg #[x, y, z, u]) w := by
  have h0 := hk.cell 0; have h1 := hk.cell 1; have h2 := hk.cell 2; have h3 := hk.cell 3
  simp at h0 h1 h2 h3
  simp [results, h, ha, go_sem, h0, h1, h2, h3]
theorem Bk.four {w : World} {b : Nat} {t : TypeId} {x y z u : Value} (h : Bk w b t #[x, y, z, u]) : w.cell? ⟨b, 0, none⟩ = some x ∧ w.cell? ⟨b, 1, none⟩ = some y ∧ w.cell? ⟨b, 2, none⟩ = some z ∧ w.cell? ⟨b, 3, none⟩ = some u := by
  have h0 := h.cell 0; have h1 := h.cell 1; have h2 := h.cell 2; have h3 := h.cell 3
  simp at h0 h1 h2 h3
  exact ⟨h0, h1, h2, h3⟩
theorem bk_set4 {w : World} {b : Nat} {t : TypeId} {x y z u : Value} (h : Bk w b t #[x, y, z, u]) (x' y' z' u' : Value) : Bk ((((w.setCell ⟨b, 0, none⟩ x').setCell ⟨b, 1, none⟩ y').setCell ⟨b, 2, none⟩ z').setCell ⟨b, 3, none⟩ u') b t #[x', y', z', u'] := by
  have := (((h.set 0 x').set 1 y').set 2 z').set 3 u'
  simpa using this
theorem Apd.gb {w w' : World} {base size n c b : Nat} {e : TypeId} {A : Option Addr} {xs : List Value} (h : Apd w base e size A n c xs) (hg : Gb (fun g => g = b) w w') (hb : b < base) : Apd w' base e size A n c xs := by
  rcases h with h | h
  · refine .inl (h.kept (row := some b) ⟨hg.os, hg.tape, hg.output, hg.size, fun k hk hn => hg.block k hk (fun e => hn (by rw [e]))⟩ ?_)
    cases hv : (Value.slice A n c).ownBlock with
    | none => exact .inl rfl
    | some k =>
      have := (h.lt k hv).1
      exact .inr (fun e => by cases e; omega)
  · exact .inr h
set_option maxRecDepth 100000 in
set_option maxHeartbeats 2000000 in
theorem oentry_any (b : Nat) (en : Ent) (r : Bytes) (w : World) (hk : Rdr w b (encE en ++ r)) (hok : OkEnt en) (hl : (encE en ++ r).length ≤ 1000000) :
    Calls Tryz.prog 159 #[.pointer (some ⟨b, 0, none⟩)] w (RdE (entV en) b r w) := by
  have hns := nameB_size hok.nm
  have hbw := Bk.lt hk
  obtain ⟨nm, dir, dg⟩ := en
  obtain ⟨d1, d2⟩ := dg
  obtain ⟨k, hkd⟩ : ∃ k, (if dir = true then 1 else 0 : Nat) = k := ⟨_, rfl⟩
  have hk1 : k ≤ 1 := by rw [← hkd]; split <;> omega
  have HDR : Hid (dir = decide (k = 1)) := by show _ = _; rw [← hkd]; cases dir <;> rfl
  unfold encE at hk hl
  simp only [hkd, List.append_assoc] at hk hl
  have HWD : Hid (WfD (d1, d2)) := hok.dg
  simp only at hns
  have hl2 : (encN k ++ (digB (d1, d2) ++ r)).length ≤ 1000000 := by rw [List.length_append] at hl; omega
  have hl3 : (digB (d1, d2) ++ r).length ≤ 1000000 := by rw [List.length_append] at hl2; omega
  have HL2 := Lib.hid hl2; have HL3 := Lib.hid hl3
  obtain ⟨W1, hW1⟩ : ∃ W, w.alloc (.cells #[.string ⟨#[]⟩, .bool false, .int .u64 0, .int .u64 0] 102) = W := ⟨_, rfl⟩
  have HZ1 : Hid (Bk W1 w.heap.size 102 #[.string ⟨#[]⟩, .bool false, .int .u64 0, .int .u64 0]) := by rw [← hW1]; exact Bk.new w _ _
  have hb1 : Below w.heap.size w W1 := by rw [← hW1]; exact (Below.refl _ w).alloc (Nat.le_refl _) _
  have zW1 : W1.heap.size = w.heap.size + 1 := by rw [← hW1]; simp
  have HG1 : Hid (Gb (fun g => g = b) w W1) := Gb.of_below hb1
  have HS := Lib.hid (ostring_any b nm (encN k ++ (digB (d1, d2) ++ r)) W1 (Bk.below hk hb1 hbw) (by omega) hl)
  clear hk hl hl2 hl3 hok hkd hb1
  go_enter Tryz.func159, Tryz.ntmps159
  go_wp2_with fail
  refine HS.out.mono ?_
  rintro e w2 ⟨rfl, hr2, hg2⟩
  have HR2 := Lib.hid hr2
  have z2 := hg2.size
  have HG2 : Hid (Gb (fun g => g = b) w w2) := HG1.out.trans hg2
  have HZ2 := Lib.hid (hg2.bk HZ1.out (by show ¬ w.heap.size = b; omega))
  clear hr2 hg2 hW1 HS
  obtain ⟨W3, hW3⟩ : ∃ W, w2.alloc (.cells #[.string nm, .bool false, .int .u64 0, .int .u64 0] 102) = W := ⟨_, rfl⟩
  have HY3 : Hid (Bk W3 w2.heap.size 102 #[.string nm, .bool false, .int .u64 0, .int .u64 0]) := by rw [← hW3]; exact Bk.new w2 _ _
  have hb3 : Below w2.heap.size w2 W3 := by rw [← hW3]; exact (Below.refl _ w2).alloc (Nat.le_refl _) _
  have zW3 : W3.heap.size = w2.heap.size + 1 := by rw [← hW3]; simp
  have HG3 : Hid (Gb (fun g => g = b) w W3) := HG2.out.trans (Gb.of_below hb3)
  have HZ3 := Lib.hid (HZ2.out.below hb3 (by omega))
  have HN := Lib.hid (onumber_any b k (digB (d1, d2) ++ r) W3 (Bk.below HR2.out hb3 (by omega)) (by omega) HL2.out)
  have HW3 := Lib.hid hW3
  clear hb3 hW3
  go_wp2_with fail
  rw [HW3.out]
  refine HN.out.mono ?_
  rintro e w4 ⟨rfl, hr4, hg4⟩
  have z4 := hg4.size
  have HG4 : Hid (Gb (fun g => g = b) w w4) := HG3.out.trans hg4
  have HZ4 := Lib.hid (hg4.bk HZ3.out (by show ¬ w.heap.size = b; omega))
  have HY4 := Lib.hid (hg4.bk HY3.out (by show ¬ w2.heap.size = b; omega))
  have HR4 := Lib.hid hr4
  obtain ⟨x0, x1, f0, f1⟩ := Bk.two hr4
  obtain ⟨y0, y1, y2, y3⟩ := HY4.out.four
  have g1 := HY4.out.free 1
  obtain ⟨W5, hW5⟩ : ∃ W, (w4.setCell ⟨b, 1, none⟩ (.bool false)).setCell ⟨w2.heap.size, 1, none⟩ (.bool (decide (k = 1))) = W := ⟨_, rfl⟩
  have hne1 : b ≠ w2.heap.size := by omega
  have hne2 : b ≠ w.heap.size := by omega
  have HR5 : Hid (Rdr W5 b (digB (d1, d2) ++ r)) := by
    rw [← hW5]
    have := (HR4.out.set 1 (.bool false)).far (p := ⟨w2.heap.size, 1, none⟩) hne1 (.bool (decide (k = 1)))
    show Bk _ _ _ _; simpa using this
  have HY5 : Hid (Bk W5 w2.heap.size 102 #[.string nm, .bool (decide (k = 1)), .int .u64 0, .int .u64 0]) := by
    rw [← hW5]
    have := (HY4.out.far (p := ⟨b, 1, none⟩) hne1.symm (.bool false)).set 1 (.bool (decide (k = 1)))
    show Bk _ _ _ _; simpa using this
  have HZ5 : Hid (Bk W5 w.heap.size 102 #[.string ⟨#[]⟩, .bool false, .int .u64 0, .int .u64 0]) := by
    rw [← hW5]; exact (HZ4.out.far (p := ⟨b, 1, none⟩) hne2.symm _).far (p := ⟨w2.heap.size, 1, none⟩) (by show w.heap.size ≠ w2.heap.size; omega) _
  have zW5 : W5.heap.size = w4.heap.size := by rw [← hW5]; simp [World.setCell]
  have HG5 : Hid (Gb (fun g => g = b) w W5) := by
    rw [← hW5]; exact (HG4.out.trans (Gb.set (p := fun g => g = b) (x := b) rfl 1 _)).after (by omega) 1 _
  have HD := Lib.hid (odigest_any b (d1, d2) r W5 HR5.out HWD.out HL3.out)
  have hkz : decide ((1 : Int) < (k : Int)) = false := by simp; omega
  have hkd : ((k : Int) == 1) = decide (k = 1) := by
    rw [Bool.eq_iff_iff]; simp; omega
  clear hr4 hg4 HN HW3
  go_wp2_with fail
  refine HD.out.mono ?_
  rintro e w6 ⟨rfl, hr6, hg6⟩
  have HY6 := Lib.hid (hg6.bk HY5.out (by show ¬ w2.heap.size = b; omega))
  have HZ6 := Lib.hid (hg6.bk HZ5.out (by show ¬ w.heap.size = b; omega))
  have HR6 := Lib.hid hr6
  have HG6 : Hid (Gb (fun g => g = b) w w6) := HG5.out.trans hg6
  clear x0 x1 f0 f1 y0 y1 y2 y3 g1 hr6 hg6 hW5 HD
  simp only [digV]
  obtain ⟨y0, y1, y2, y3⟩ := HY6.out.four
  have g2 := HY6.out.free 2; have g3 := HY6.out.free 3
  obtain ⟨z0, z1, z2', z3⟩ := HZ6.out.four
  have e0 := HZ6.out.free 0; have e1 := HZ6.out.free 1; have e2 := HZ6.out.free 2; have e3 := HZ6.out.free 3
  have hzy : w.heap.size ≠ w2.heap.size := by omega
  go_wp2_with fail
  refine bodyPost_ret (res_cellE Tryz.results159 rfl (bk_set4 ((HZ6.out.far (p := ⟨w2.heap.size, 2, none⟩) hzy _).far (p := ⟨w2.heap.size, 3, none⟩) hzy _) _ _ _ _)) rfl ⟨by rw [← HDR.out]; rfl, ?_, ?_⟩
  · exact (((((HR6.out.far (p := ⟨w2.heap.size, 2, none⟩) hne1 _).far (p := ⟨w2.heap.size, 3, none⟩) hne1 _).far (p := ⟨w.heap.size, 0, none⟩) hne2 _).far (p := ⟨w.heap.size, 1, none⟩) hne2 _).far (p := ⟨w.heap.size, 2, none⟩) hne2 _).far (p := ⟨w.heap.size, 3, none⟩) hne2 _
  · exact (((((HG6.out.after (by omega) 2 _).after (by omega) 3 _).after (Nat.le_refl _) 0 _).after (Nat.le_refl _) 1 _).after (Nat.le_refl _) 2 _).after (Nat.le_refl _) 3 _
theorem odigestR (b : Nat) (d : Dig) (r : Bytes) (w : World) (hk : Rdr w b (digB d ++ r)) (hd : WfD d) (hl : (digB d ++ r).length ≤ 1000000) :
    Calls Tryz.prog 160 #[.pointer (some ⟨b, 0, none⟩)] w (RdE (digV d) b r w) := odigest_any b d r w hk hd hl
def RlE (t : TypeId) (sz : Nat) (xs : List Value) (n b : Nat) (r : Bytes) (w : World) (e : Ending) (w' : World) : Prop :=
  ∃ A c, e = .returned (.slice A n c) ∧ n ≤ c ∧ c ≤ maxLen ∧ Apd w' w.heap.size t sz A n c xs ∧ Rdr w' b r ∧ Gb (fun g => g = b) w w'
theorem Gb.onto {p : Nat → Prop} {a b c : World} (h : Gb p a b) (k : Below a.heap.size b c) : Gb p a c := ⟨k.os.trans h.os, k.tape.trans h.tape, k.output.trans h.output, Nat.le_trans h.size k.size, fun i hi hp => (k.block i hi).trans (h.block i hi hp)⟩
theorem halt_orl {P : Program} {ops : Array Oper} {rest : List Oper} {o : Oper} {a : Act} {w : World} {Q : Exit → Act → World → Prop} (s x : Operand) (t : TypeId) (_ : o.op = .call { callee := .builtin .append, args := #[s, x], argTypes := #[t, t] })
    (h : Hid (wpList P ops Q (o :: rest) a w)) : wpList P ops Q (o :: rest) a w := h
theorem drop_flat {α β : Type} {f : α → List β} {l : List α} {k : Nat} {x : α} (h : l[k]? = some x) : (l.drop k).flatMap f = f x ++ (l.drop (k + 1)).flatMap f := by
  have hk := List.getElem?_eq_some_iff.1 h
  have e : l.drop k = x :: l.drop (k + 1) := by rw [← hk.2, List.getElem_cons_drop]
  rw [e, List.flatMap_cons]
set_option maxRecDepth 100000 in
set_option maxHeartbeats 2000000 in
theorem olistE_any (b : Nat) (es : List Ent) (r : Bytes) (w : World) (hk : Rdr w b (encN es.length ++ (es.flatMap encE ++ r))) (hok : ∀ e ∈ es, OkEnt e) (hn : es.length ≤ 200) (hl : (encN es.length ++ (es.flatMap encE ++ r)).length ≤ 1000000) :
    Calls Tryz.prog 158 #[.pointer (some ⟨b, 0, none⟩), .int .i64 200, .func (.func 159) #[.pointer (some ⟨b, 0, none⟩)] #[]] w (RlE 102 4 (flat enC es) es.length b r w) := by
  have hbw := Bk.lt hk
  obtain ⟨n, hne⟩ : ∃ n, es.length = n := ⟨_, rfl⟩
  rw [hne] at hk hl hn ⊢
  have HLN := Lib.hid hne
  have hl2 : (es.flatMap encE ++ r).length ≤ 1000000 := by rw [List.length_append] at hl; omega
  have HL2 := Lib.hid hl2
  have HOK := Lib.hid hok
  have HN := Lib.hid (onumber_any b n (es.flatMap encE ++ r) w hk (by omega) hl)
  obtain ⟨i0, hi, hz0, hz1, hz2⟩ := info_parts infoEnt
  have Hi := Lib.hid hi; have Hz0 := Lib.hid hz0; have Hz1 := Lib.hid hz1; have Hz2 := Lib.hid hz2
  clear hk hl hl2 hok hi hz0 hz1 hz2 hne
  go_enter Tryz.func158, Tryz.ntmps158
  go_wp2_with fail
  refine HN.out.mono ?_
  rintro e w1 ⟨rfl, hr1, hg1⟩
  have HR1 := Lib.hid hr1
  obtain ⟨x0, x1, f0, f1⟩ := Bk.two hr1
  have z1 := hg1.size
  obtain ⟨W2, hW2⟩ : ∃ W, w1.setCell ⟨b, 1, none⟩ (.bool false) = W := ⟨_, rfl⟩
  have HR2 : Hid (Rdr W2 b (es.flatMap encE ++ r)) := by
    rw [← hW2]; have := HR1.out.set 1 (.bool false); show Bk _ _ _ _; simpa using this
  have HG2 : Hid (Gb (fun g => g = b) w W2) := by rw [← hW2]; exact hg1.trans (Gb.set (p := fun g => g = b) (x := b) rfl 1 _)
  have hmz : decide ((200 : Int) < (n : Int)) = false := by simp; omega
  clear hr1 hg1 HN
  go_wp2_with fail
  clear hW2 x0 x1 f0 f1
  go_loopw [8, 9] (fun l i wr => ∃ (j : Nat) (Aj : Option Addr) (cj : Nat), l = .slice Aj j cj ∧ i = .int .i64 (j : Int) ∧ j ≤ n ∧ j ≤ cj ∧ cj ≤ maxLen ∧ Hid (Apd wr w.heap.size 102 4 Aj j cj (flat enC (es.take j))) ∧ Hid (Rdr wr b ((es.drop j).flatMap encE ++ r)) ∧ Hid (Gb (fun g => g = b) w wr)) (fun _ i _ => n - (intOf i).toNat)
  case atStart => exact ⟨0, none, 0, rfl, rfl, Nat.zero_le _, Nat.le_refl _, Nat.zero_le _, .inr ⟨rfl, rfl, rfl⟩, HR2.out, HG2.out⟩
  case round =>
    obtain ⟨j, Aj, cj, rfl, rfl, hj, hjc, hcm, hA, hR, hG⟩ := hrel
    obtain ⟨x0, x1, _, _⟩ := Bk.two hR.out
    have zr := hG.out.size
    by_cases hlt : j < n
    · have hjz : (j : Int) < (n : Int) := by omega
      obtain ⟨en, hen⟩ : ∃ en, es[j]? = some en := ⟨_, List.getElem?_eq_getElem (by rw [HLN.out]; exact hlt)⟩
      have HE := Lib.hid hen
      have hR2 := hR.out
      rw [drop_flat hen, List.append_assoc] at hR2
      have hln : (encE en ++ ((es.drop (j + 1)).flatMap encE ++ r)).length ≤ 1000000 := by
        have h := HL2.out
        rw [← List.take_append_drop j es, List.flatMap_append, drop_flat hen, List.append_assoc, List.append_assoc, List.length_append] at h
        omega
      have HC := Lib.hid (oentry_any b en ((es.drop (j + 1)).flatMap encE ++ r) wr hR2 (HOK.out en (List.mem_of_getElem? hen)) hln)
      clear hen hR2 hln
      go_wp2_with (first | (go_at_call 159; refine HC.out.mono ?_; rintro e w3 ⟨rfl, hr3, hg3⟩; simp only [entV]) | (at_builtin; refine halt_orl (.tmp 36) (.tmp 39) 79 rfl ?_))
      refine unhalt ?_
      have z3 := hg3.size
      refine wpList_append_apd (base := w.heap.size) (size := 4) _ rfl (.tmp 36) (.tmp 39) 79 rfl 102 i0 _ 40 Tryz.underlying79 Hi.out Hz0.out Hz1.out Hz2.out rfl (by decide) Aj j cj (flat enC (es.take j)) rfl ?own_1 (w3.heap.size + 1) _ 1 _ (enC en) rfl ?nw_1 (by simp [enC, Value.oneCell']) ?m1_1 ?m2_1 ?m3_1 ?_
      case own_1 => exact (hA.out.gb hg3 hbw).below ((Below.refl _ w3).alloc (Nat.le_refl _) _)
      case nw_1 =>
        have := Sl.of_bk (n := 1) (size := 4) (Bk.new w3 102 #[.string en.nm, .bool en.dir, .int .u64 en.dg.1, .int .u64 en.dg.2]) rfl
        rw [World.size_alloc] at this; exact this
      case m1_1 => unfold maxLen; omega
      case m2_1 => omega
      case m3_1 => simp; omega
      intro A4 c4 w4 ha4 hb4 hn4 hm4 hok4
      have HA4 : Hid (Apd w4 w.heap.size 102 4 A4 (j + 1) c4 (flat enC (es.take (j + 1)))) := by
        show Apd _ _ _ _ _ _ _ _
        rw [take_snoc HE.out, flat_append]
        simpa [flat] using ha4
      have hbo : Below w.heap.size w3 w4 := ((Below.refl w.heap.size w3).alloc (by omega) _).trans hb4
      have HG4 : Hid (Gb (fun g => g = b) w w4) := (hG.out.trans hg3).onto hbo
      have HR4 : Hid (Rdr w4 b ((es.drop (j + 1)).flatMap encE ++ r)) := Bk.below hr3 hbo hbw
      clear ha4 hb4 hok4 hr3 hg3 hbo HC x0 x1
      go_wp2_with fail
      go_roundw
      case rel => exact ⟨j + 1, A4, c4, rfl, by go_num, hlt, hn4, hm4, HA4.out, HR4.out, HG4.out⟩
      case measure => simp [intOf]; omega
    · have hjz : ¬ (j : Int) < (n : Int) := by omega
      have hjn : n = j := by omega
      subst hjn
      have HS : Hid (Apd wr w.heap.size 102 4 Aj n cj (flat enC es)) := by
        have := hA.out; rw [List.take_of_length_le (by rw [HLN.out]; exact Nat.le_refl _)] at this; exact this
      have HR3 : Hid (Rdr wr b r) := by
        have := hR.out; rw [List.drop_of_length_le (by rw [HLN.out]; exact Nat.le_refl _)] at this; exact this
      go_wp2_with fail
      go_ret
      exact ⟨Aj, cj, rfl, hjc, hcm, HS.out, HR3.out, hG.out⟩
set_option maxRecDepth 100000 in
set_option maxHeartbeats 2000000 in
theorem olistD_any (b : Nat) (es : List Dig) (r : Bytes) (w : World) (hk : Rdr w b (encN es.length ++ (es.flatMap digB ++ r))) (hok : ∀ e ∈ es, WfD e) (hn : es.length ≤ 8) (hl : (encN es.length ++ (es.flatMap digB ++ r)).length ≤ 1000000) :
    Calls Tryz.prog 161 #[.pointer (some ⟨b, 0, none⟩), .int .i64 8, .func (.func 160) #[.pointer (some ⟨b, 0, none⟩)] #[]] w (RlE 30 2 (flat dgC es) es.length b r w) := by
  have hbw := Bk.lt hk
  obtain ⟨n, hne⟩ : ∃ n, es.length = n := ⟨_, rfl⟩
  rw [hne] at hk hl hn ⊢
  have HLN := Lib.hid hne
  have hl2 : (es.flatMap digB ++ r).length ≤ 1000000 := by rw [List.length_append] at hl; omega
  have HL2 := Lib.hid hl2
  have HOK := Lib.hid hok
  have HN := Lib.hid (onumber_any b n (es.flatMap digB ++ r) w hk (by omega) hl)
  obtain ⟨i0, hi, hz0, hz1, hz2⟩ := info_parts infoDg
  have Hi := Lib.hid hi; have Hz0 := Lib.hid hz0; have Hz1 := Lib.hid hz1; have Hz2 := Lib.hid hz2
  clear hk hl hl2 hok hi hz0 hz1 hz2 hne
  go_enter Tryz.func161, Tryz.ntmps161
  go_wp2_with fail
  refine HN.out.mono ?_
  rintro e w1 ⟨rfl, hr1, hg1⟩
  have HR1 := Lib.hid hr1
  obtain ⟨x0, x1, f0, f1⟩ := Bk.two hr1
  have z1 := hg1.size
  obtain ⟨W2, hW2⟩ : ∃ W, w1.setCell ⟨b, 1, none⟩ (.bool false) = W := ⟨_, rfl⟩
  have HR2 : Hid (Rdr W2 b (es.flatMap digB ++ r)) := by
    rw [← hW2]; have := HR1.out.set 1 (.bool false); show Bk _ _ _ _; simpa using this
  have HG2 : Hid (Gb (fun g => g = b) w W2) := by rw [← hW2]; exact hg1.trans (Gb.set (p := fun g => g = b) (x := b) rfl 1 _)
  have hmz : decide ((8 : Int) < (n : Int)) = false := by simp; omega
  clear hr1 hg1 HN
  go_wp2_with fail
  clear hW2 x0 x1 f0 f1
  go_loopw [8, 9] (fun l i wr => ∃ (j : Nat) (Aj : Option Addr) (cj : Nat), l = .slice Aj j cj ∧ i = .int .i64 (j : Int) ∧ j ≤ n ∧ j ≤ cj ∧ cj ≤ maxLen ∧ Hid (Apd wr w.heap.size 30 2 Aj j cj (flat dgC (es.take j))) ∧ Hid (Rdr wr b ((es.drop j).flatMap digB ++ r)) ∧ Hid (Gb (fun g => g = b) w wr)) (fun _ i _ => n - (intOf i).toNat)
  case atStart => exact ⟨0, none, 0, rfl, rfl, Nat.zero_le _, Nat.le_refl _, Nat.zero_le _, .inr ⟨rfl, rfl, rfl⟩, HR2.out, HG2.out⟩
  case round =>
    obtain ⟨j, Aj, cj, rfl, rfl, hj, hjc, hcm, hA, hR, hG⟩ := hrel
    obtain ⟨x0, x1, _, _⟩ := Bk.two hR.out
    have zr := hG.out.size
    by_cases hlt : j < n
    · have hjz : (j : Int) < (n : Int) := by omega
      obtain ⟨en, hen⟩ : ∃ en, es[j]? = some en := ⟨_, List.getElem?_eq_getElem (by rw [HLN.out]; exact hlt)⟩
      have HE := Lib.hid hen
      have hR2 := hR.out
      rw [drop_flat hen, List.append_assoc] at hR2
      have hln : (digB en ++ ((es.drop (j + 1)).flatMap digB ++ r)).length ≤ 1000000 := by
        have h := HL2.out
        rw [← List.take_append_drop j es, List.flatMap_append, drop_flat hen, List.append_assoc, List.append_assoc, List.length_append] at h
        omega
      have HC := Lib.hid (odigestR b en ((es.drop (j + 1)).flatMap digB ++ r) wr hR2 (HOK.out en (List.mem_of_getElem? hen)) hln)
      clear hen hR2 hln
      go_wp2_with (first | (go_at_call 160; refine HC.out.mono ?_; rintro e w3 ⟨rfl, hr3, hg3⟩; simp only [digV]) | (at_builtin; refine halt_orl (.tmp 36) (.tmp 39) 80 rfl ?_))
      refine unhalt ?_
      have z3 := hg3.size
      refine wpList_append_apd (base := w.heap.size) (size := 2) _ rfl (.tmp 36) (.tmp 39) 80 rfl 30 i0 _ 16 Tryz.underlying80 Hi.out Hz0.out Hz1.out Hz2.out rfl (by decide) Aj j cj (flat dgC (es.take j)) rfl ?own_1 (w3.heap.size + 1) _ 1 _ (dgC en) rfl ?nw_1 (by simp [dgC, Value.oneCell']) ?m1_1 ?m2_1 ?m3_1 ?_
      case own_1 => exact (hA.out.gb hg3 hbw).below ((Below.refl _ w3).alloc (Nat.le_refl _) _)
      case nw_1 =>
        have := Sl.of_bk (n := 1) (size := 2) (Bk.new w3 30 #[.int .u64 en.1, .int .u64 en.2]) rfl
        rw [World.size_alloc] at this; exact this
      case m1_1 => unfold maxLen; omega
      case m2_1 => omega
      case m3_1 => simp; omega
      intro A4 c4 w4 ha4 hb4 hn4 hm4 hok4
      have HA4 : Hid (Apd w4 w.heap.size 30 2 A4 (j + 1) c4 (flat dgC (es.take (j + 1)))) := by
        show Apd _ _ _ _ _ _ _ _
        rw [take_snoc HE.out, flat_append]
        simpa [flat] using ha4
      have hbo : Below w.heap.size w3 w4 := ((Below.refl w.heap.size w3).alloc (by omega) _).trans hb4
      have HG4 : Hid (Gb (fun g => g = b) w w4) := (hG.out.trans hg3).onto hbo
      have HR4 : Hid (Rdr w4 b ((es.drop (j + 1)).flatMap digB ++ r)) := Bk.below hr3 hbo hbw
      clear ha4 hb4 hok4 hr3 hg3 hbo HC x0 x1
      go_wp2_with fail
      go_roundw
      case rel => exact ⟨j + 1, A4, c4, rfl, by go_num, hlt, hn4, hm4, HA4.out, HR4.out, HG4.out⟩
      case measure => simp [intOf]; omega
    · have hjz : ¬ (j : Int) < (n : Int) := by omega
      have hjn : n = j := by omega
      subst hjn
      have HS : Hid (Apd wr w.heap.size 30 2 Aj n cj (flat dgC es)) := by
        have := hA.out; rw [List.take_of_length_le (by rw [HLN.out]; exact Nat.le_refl _)] at this; exact this
      have HR3 : Hid (Rdr wr b r) := by
        have := hR.out; rw [List.drop_of_length_le (by rw [HLN.out]; exact Nat.le_refl _)] at this; exact this
      go_wp2_with fail
      go_ret
      exact ⟨Aj, cj, rfl, hjc, hcm, HS.out, HR3.out, hG.out⟩
end Go.Proofs.YtmdhlkkekidknaaGreatDoor

namespace Go.Proofs.YtmdhlkkekidknaaGreatDoor
open Go.RowKit

def gPhi (S : List (Nat × (Value → World → Prop))) (vals : List Value) (i : Nat) (v : Value) (W : World) : Prop :=
  match S.lookup i with
  | some p => p v W
  | none => vPhi vals i v W
theorem lookup_mem {β : Type _} : ∀ {S : List (Nat × β)} {i : Nat} {p : β}, S.lookup i = some p → ∃ x ∈ S, x.2 = p
  | [], i, p, h => by cases h
  | (j, q) :: S, i, p, h => by
    rw [List.lookup_cons] at h
    cases e : i == j with
    | true => rw [e] at h; cases h; exact ⟨_, List.mem_cons_self, rfl⟩
    | false =>
      rw [e] at h
      obtain ⟨x, hx, e⟩ := lookup_mem h
      exact ⟨x, List.mem_cons_of_mem _ hx, e⟩
theorem gPhi_keep {S : List (Nat × (Value → World → Prop))} {vals : List Value} (hS : ∀ x ∈ S, ∀ v W W', x.2 v W → Below W.heap.size W W' → x.2 v W') (i : Nat) (v : Value) (W W' : World) (h : gPhi S vals i v W) (hb : Below W.heap.size W W') : gPhi S vals i v W' := by
  unfold gPhi at h ⊢
  cases e : S.lookup i with
  | none => rw [e] at h; exact h
  | some p =>
    rw [e] at h
    obtain ⟨x, hx, rfl⟩ := lookup_mem e
    exact hS x hx v W W' h hb
end Go.Proofs.YtmdhlkkekidknaaGreatDoor

namespace Go.Proofs.YtmdhlkkekidknaaGreatDoor

theorem ls5 {vs : List Value} (h : vs.length = 5) : ∃ v0 v1 v2 v3 v4, vs = v0 :: v1 :: v2 :: v3 :: v4 :: [] := by
  match vs, h with
  | v0 :: v1 :: v2 :: v3 :: v4 :: [], _ => exact ⟨_, _, _, _, _, rfl⟩
theorem ls7 {vs : List Value} (h : vs.length = 7) : ∃ v0 v1 v2 v3 v4 v5 v6, vs = v0 :: v1 :: v2 :: v3 :: v4 :: v5 :: v6 :: [] := by
  match vs, h with
  | v0 :: v1 :: v2 :: v3 :: v4 :: v5 :: v6 :: [], _ => exact ⟨_, _, _, _, _, _, _, rfl⟩
theorem ls10 {vs : List Value} (h : vs.length = 10) : ∃ v0 v1 v2 v3 v4 v5 v6 v7 v8 v9, vs = v0 :: v1 :: v2 :: v3 :: v4 :: v5 :: v6 :: v7 :: v8 :: v9 :: [] := by
  match vs, h with
  | v0 :: v1 :: v2 :: v3 :: v4 :: v5 :: v6 :: v7 :: v8 :: v9 :: [], _ => exact ⟨_, _, _, _, _, _, _, _, _, _, rfl⟩
theorem ls11 {vs : List Value} (h : vs.length = 11) : ∃ v0 v1 v2 v3 v4 v5 v6 v7 v8 v9 v10, vs = v0 :: v1 :: v2 :: v3 :: v4 :: v5 :: v6 :: v7 :: v8 :: v9 :: v10 :: [] := by
  match vs, h with
  | v0 :: v1 :: v2 :: v3 :: v4 :: v5 :: v6 :: v7 :: v8 :: v9 :: v10 :: [], _ => exact ⟨_, _, _, _, _, _, _, _, _, _, _, rfl⟩
theorem ls12 {vs : List Value} (h : vs.length = 12) : ∃ v0 v1 v2 v3 v4 v5 v6 v7 v8 v9 v10 v11, vs = v0 :: v1 :: v2 :: v3 :: v4 :: v5 :: v6 :: v7 :: v8 :: v9 :: v10 :: v11 :: [] := by
  match vs, h with
  | v0 :: v1 :: v2 :: v3 :: v4 :: v5 :: v6 :: v7 :: v8 :: v9 :: v10 :: v11 :: [], _ => exact ⟨_, _, _, _, _, _, _, _, _, _, _, _, rfl⟩
theorem ls13 {vs : List Value} (h : vs.length = 13) : ∃ v0 v1 v2 v3 v4 v5 v6 v7 v8 v9 v10 v11 v12, vs = v0 :: v1 :: v2 :: v3 :: v4 :: v5 :: v6 :: v7 :: v8 :: v9 :: v10 :: v11 :: v12 :: [] := by
  match vs, h with
  | v0 :: v1 :: v2 :: v3 :: v4 :: v5 :: v6 :: v7 :: v8 :: v9 :: v10 :: v11 :: v12 :: [], _ => exact ⟨_, _, _, _, _, _, _, _, _, _, _, _, _, rfl⟩
theorem ls20 {vs : List Value} (h : vs.length = 20) : ∃ v0 v1 v2 v3 v4 v5 v6 v7 v8 v9 v10 v11 v12 v13 v14 v15 v16 v17 v18 v19, vs = v0 :: v1 :: v2 :: v3 :: v4 :: v5 :: v6 :: v7 :: v8 :: v9 :: v10 :: v11 :: v12 :: v13 :: v14 :: v15 :: v16 :: v17 :: v18 :: v19 :: [] := by
  match vs, h with
  | v0 :: v1 :: v2 :: v3 :: v4 :: v5 :: v6 :: v7 :: v8 :: v9 :: v10 :: v11 :: v12 :: v13 :: v14 :: v15 :: v16 :: v17 :: v18 :: v19 :: [], _ => exact ⟨_, _, _, _, _, _, _, _, _, _, _, _, _, _, _, _, _, _, _, _, rfl⟩
theorem ls28 {vs : List Value} (h : vs.length = 28) : ∃ v0 v1 v2 v3 v4 v5 v6 v7 v8 v9 v10 v11 v12 v13 v14 v15 v16 v17 v18 v19 v20 v21 v22 v23 v24 v25 v26 v27, vs = v0 :: v1 :: v2 :: v3 :: v4 :: v5 :: v6 :: v7 :: v8 :: v9 :: v10 :: v11 :: v12 :: v13 :: v14 :: v15 :: v16 :: v17 :: v18 :: v19 :: v20 :: v21 :: v22 :: v23 :: v24 :: v25 :: v26 :: v27 :: [] := by
  match vs, h with
  | v0 :: v1 :: v2 :: v3 :: v4 :: v5 :: v6 :: v7 :: v8 :: v9 :: v10 :: v11 :: v12 :: v13 :: v14 :: v15 :: v16 :: v17 :: v18 :: v19 :: v20 :: v21 :: v22 :: v23 :: v24 :: v25 :: v26 :: v27 :: [], _ => exact ⟨_, _, _, _, _, _, _, _, _, _, _, _, _, _, _, _, _, _, _, _, _, _, _, _, _, _, _, _, rfl⟩
end Go.Proofs.YtmdhlkkekidknaaGreatDoor

namespace Go.Proofs.YtmdhlkkekidknaaGreatDoor
open Go.RowKit

theorem Sl.en {w : World} {B n k : Nat} {A : Option Addr} {l : List Ent} (h : Sl w B 4 A n (flat enC l)) (hk : k < n) :
    ∃ b off e, A = some ⟨b, off, none⟩ ∧ b < B ∧ l[k]? = some e ∧ w.cell? ⟨b, off + k * 4, none⟩ = some (.string e.nm) ∧ w.cell? ⟨b, off + k * 4 + 1, none⟩ = some (.bool e.dir) ∧ w.cell? ⟨b, off + k * 4 + 2, none⟩ = some (.int .u64 e.dg.1) ∧ w.cell? ⟨b, off + k * 4 + 3, none⟩ = some (.int .u64 e.dg.2) := by
  obtain ⟨b, off, x, e, hb, hx, hc⟩ := h.at_ enC_len (by omega) hk
  exact ⟨b, off, x, e, hb, hx, hc 0 _ rfl, hc 1 _ rfl, hc 2 _ rfl, hc 3 _ rfl⟩
theorem Sl.dg {w : World} {B n k : Nat} {A : Option Addr} {l : List Dig} (h : Sl w B 2 A n (flat dgC l)) (hk : k < n) :
    ∃ b off d, A = some ⟨b, off, none⟩ ∧ b < B ∧ l[k]? = some d ∧ w.cell? ⟨b, off + k * 2, none⟩ = some (.int .u64 d.1) ∧ w.cell? ⟨b, off + k * 2 + 1, none⟩ = some (.int .u64 d.2) := by
  obtain ⟨b, off, x, e, hb, hx, hc⟩ := h.at_ dgC_len (by omega) hk
  exact ⟨b, off, x, e, hb, hx, hc 0 _ rfl, hc 1 _ rfl⟩
theorem dig_eq (x y : Dig) : (x.1 == y.1 && x.2 == y.2) = decide (x = y) := by
  obtain ⟨a, b⟩ := x
  obtain ⟨c, d⟩ := y
  rw [Bool.eq_iff_iff]; simp
theorem dig_nz {x : Dig} (h : x ≠ zD) : (x.1 == 0 && x.2 == 0) = false := by
  have := dig_eq x zD
  rw [decide_eq_false h] at this; exact this
set_option maxRecDepth 100000 in
set_option maxHeartbeats 2000000 in
theorem ocheckEs_any (A : Option Addr) (n c B : Nat) (l : List Ent) (w : World) (h0 : Sl w B 4 A n (flat enC l)) (hB : B ≤ w.heap.size) (hok : OkEs l) :
    Calls Tryz.prog 190 #[.slice A n c] w fun e w' => e = .returned (.int .i64 0) ∧ Below w.heap.size w w' := by
  have HL := Lib.hid (h0.len enC_len (by omega))
  have H0 := Lib.hid h0
  have hn : n ≤ 200 := by rw [← HL.out]; exact hok.few
  have HA := Lib.hid hok.all; have HS := Lib.hid hok.asc
  clear h0 hok
  have hnz : ¬ (200 : Int) < (n : Int) := by omega
  go_enter Tryz.func190, Tryz.ntmps190
  go_wp2_with fail
  go_loopw [10] (fun i wr => ∃ k : Nat, i = .int .i64 (k : Int) ∧ k ≤ n ∧ Hid (Below w.heap.size w wr)) (fun i _ => n - (intOf i).toNat)
  case atStart => exact ⟨0, rfl, Nat.zero_le _, Below.refl _ _⟩
  case round =>
    obtain ⟨k, rfl, hk, hbw⟩ := hrel
    have zwr := hbw.out.size
    by_cases hlt : k < n
    · have hlz : (k : Int) < (n : Int) := by omega
      obtain ⟨bb, off, en, rfl, hbB, he, y0, y1, y2, y3⟩ := (H0.out.below hbw.out hB).en hlt
      have HE := Lib.hid he
      have HOE := Lib.hid (HA.out en (List.mem_of_getElem? he))
      obtain ⟨wb, hwb⟩ : ∃ wb, wr.alloc (.cells #[.string en.nm, .bool en.dir, .int .u64 en.dg.1, .int .u64 en.dg.2] 102) = wb := ⟨_, rfl⟩
      have HBb : Hid (Below wr.heap.size wr wb) := by rw [← hwb]; exact (Below.refl _ wr).alloc (Nat.le_refl _) _
      have HKb : Hid (Bk wb wr.heap.size 102 #[.string en.nm, .bool en.dir, .int .u64 en.dg.1, .int .u64 en.dg.2]) := by rw [← hwb]; exact Bk.new wr _ _
      have HBw : Hid (Below w.heap.size w wb) := hbw.out.trans (HBb.out.mono zwr)
      have hns := nameB_size HOE.out.nm
      have hnm := HOE.out.nm
      have hdz := dig_nz HOE.out.nz
      have zwb : wb.heap.size = wr.heap.size + 1 := by rw [← hwb]; simp
      have HNX : Hid (∀ j, k = j + 1 → ∃ p, Hid (Op.bytesLess en.nm.toList p.toList = false ∧ (en.nm.toList == p.toList) = false) ∧ wb.cell? ⟨bb, off + j * 4, none⟩ = some (.string p)) := by
        intro j hj
        obtain ⟨bb', off', p, hpe, _, hp, z0, _⟩ := (H0.out.below HBw.out hB).en (k := j) (by omega)
        cases hpe
        have hl := HS.out j p en hp (by rw [← hj]; exact HE.out)
        refine ⟨p.nm, ⟨(less_str _ _).trans ?_, str_ne fun e => ?_⟩, z0⟩
        · cases hx : less en.nm p.nm with
          | false => rfl
          | true => have := lessB_trans hl hx; rw [lessB_irrefl] at this; cases this
        · rw [e, lessB_irrefl] at hl; cases hl
      have x0 := HKb.out.cell 0; have x2 := HKb.out.cell 2; have x3 := HKb.out.cell 3
      simp at x0 x2 x3
      have x0' := x0
      rw [← hwb] at x0'
      have HWb := Lib.hid hwb
      clear hwb he
      obtain ⟨nm, dir, d1, d2⟩ := en
      simp only at hns hnm hdz y0 y1 y2 y3 x0 x2 x3 x0' HWb HKb HNX
      go_upto_region 8 with (first | (go_at_call 98; refine (vname_any nm _ (by unfold maxLen; omega)).mono ?_; rintro e w1 ⟨rfl, rfl⟩; rw [hnm]))
      rw [HWb.out]
      clear x0'
      go_cut [20] from 21 to 33 (fun f wx => f = .bool false ∧ Hid (Below wb.heap.size wb wx))
      case first =>
        cases k with
        | zero =>
          go_quiet (fail)
          simp only [Exit.then]
          go_step
          go_meet
          exact ⟨rfl, below_drewN (Below.refl _ _) _⟩
        | succ j =>
          obtain ⟨p, HP, z0⟩ := HNX.out j rfl
          have hkp : (0 : Int) < ((j + 1 : Nat) : Int) := by omega
          have hw1 : IntKind.i64.wrap (((j + 1 : Nat) : Int) - 1) = (j : Int) := by rw [wrap_sm (by omega) (by omega)]; omega
          have hj1 : ¬ (j : Int) < 0 := by omega
          have hj2 : (j : Int) < (n : Int) := by omega
          obtain ⟨hp, hp'⟩ := HP.out
          go_quiet (fail)
          simp only [Exit.then]
          go_step
          go_meet
          exact ⟨rfl, below_drewN (Below.refl _ _) _⟩
      case rest =>
        obtain ⟨rfl, HBc⟩ := hcut
        have HBwc : Hid (Below w.heap.size w wc) := HBw.out.trans (HBc.out.mono HBw.out.size)
        have HKc := Lib.hid (HKb.out.below HBc.out HKb.out.lt)
        clear x0 x2 x3 y0 y1 y2 y3
        have x2 := HKc.out.cell 2; have x3 := HKc.out.cell 3
        simp at x2 x3
        go_wp2_with fail
        go_roundw
        case rel => exact ⟨k + 1, by go_num, hlt, HBwc.out⟩
        case measure => simp [intOf]; omega
    · have hlz : ¬ (k : Int) < (n : Int) := by omega
      go_wp2_with fail
      go_ret
      exact ⟨rfl, hbw.out⟩
set_option maxRecDepth 100000 in
set_option maxHeartbeats 2000000 in
theorem indexD_any (A : Option Addr) (n c B : Nat) (l : List Dig) (d : Dig) (w : World) (h0 : Sl w B 2 A n (flat dgC l)) (hB : B ≤ w.heap.size) (hn : n ≤ 1000000) :
    Calls Tryz.prog 218 #[.slice A n c, digV d] w fun e w' => (∃ z : Int, e = .returned (.int .i64 z) ∧ ((0 ≤ z) ↔ d ∈ l)) ∧ Below w.heap.size w w' := by
  have HL := Lib.hid (h0.len dgC_len (by omega))
  have H0 := Lib.hid h0; clear h0
  obtain ⟨a, b⟩ := d
  unfold digV
  obtain ⟨W, hW⟩ : ∃ W, w.alloc (.cells #[.int .u64 a, .int .u64 b] 30) = W := ⟨_, rfl⟩
  have HB0 : Hid (Below w.heap.size w W) := by rw [← hW]; exact (Below.refl _ w).alloc (Nat.le_refl _) _
  have HK : Hid (Bk W w.heap.size 30 #[.int .u64 a, .int .u64 b]) := by rw [← hW]; exact Bk.new w _ _
  have zk : w.heap.size < W.heap.size := HK.out.lt
  simp only
  go_enter Tryz.func218, Tryz.ntmps218
  go_wp2_with fail
  clear hW
  go_loopw [8] (fun i wr => ∃ k : Nat, k ≤ n ∧ i = .int .i64 k ∧ Hid ((a, b) ∉ l.take k) ∧ Hid (Below W.heap.size W wr)) (fun i _ => n - (intOf i).toNat)
  case atStart => exact ⟨0, Nat.zero_le _, rfl, (fun h => by simp at h), Below.refl _ _⟩
  case round =>
    obtain ⟨k, hk, rfl, hN, hBel⟩ := hrel
    have HBw : Hid (Below w.heap.size w wr) := HB0.out.trans (hBel.out.mono HB0.out.size)
    by_cases hlt : k < n
    · obtain ⟨bb, off, x, rfl, hbB, hx, y0, y1⟩ := (H0.out.below HBw.out hB).dg hlt
      have hlz : (k : Int) < (n : Int) := by omega
      obtain ⟨x0, x1, _, _⟩ := (HK.out.below hBel.out zk).two
      have HX := Lib.hid hx; clear hx
      have hde := dig_eq (a, b) x
      simp only at hde
      by_cases e : (a, b) = x
      · rw [decide_eq_true e] at hde
        have HM : Hid ((a, b) ∈ l) := by show _ ∈ _; rw [e]; exact List.mem_of_getElem? HX.out
        clear e
        obtain ⟨x1', x2'⟩ := x
        simp only at y0 y1 hde
        go_wp2_with fail
        go_quiet (fail)
        go_wp2_with fail
        go_ret
        exact ⟨⟨_, rfl, fun _ => HM.out, fun _ => by omega⟩, below_drewN HBw.out _⟩
      · rw [decide_eq_false e] at hde
        have HN : Hid ((a, b) ∉ l.take (k + 1)) := fun hm => by
          rw [take_snoc HX.out] at hm
          rcases List.mem_append.1 hm with hm | hm
          · exact hN.out hm
          · exact e (List.mem_singleton.1 hm)
        clear e
        obtain ⟨x1', x2'⟩ := x
        simp only at y0 y1 hde
        go_wp2_with fail
        go_quiet (fail)
        go_wp2_with fail
        go_roundw
        case rel => exact ⟨k + 1, by omega, by go_num, HN.out, below_drewN hBel.out _⟩
        case measure => simp [intOf]; omega
    · have hlz : ¬ (k : Int) < (n : Int) := by omega
      have HN : Hid ((a, b) ∉ l) := by
        have := hN.out
        rwa [List.take_of_length_le (by rw [HL.out]; omega)] at this
      go_wp2_with fail
      go_ret
      exact ⟨⟨_, rfl, fun h => absurd h (by decide), fun h => absurd h HN.out⟩, HBw.out⟩
set_option maxHeartbeats 1000000 in
theorem containsD_any (A : Option Addr) (n c B : Nat) (l : List Dig) (d : Dig) (w : World) (h0 : Sl w B 2 A n (flat dgC l)) (hB : B ≤ w.heap.size) (hn : n ≤ 1000000) :
    Calls Tryz.prog 210 #[.slice A n c, digV d] w fun e w' => e = .returned (.bool (decide (d ∈ l))) ∧ Below w.heap.size w w' := by
  obtain ⟨W, hW⟩ : ∃ W, w.alloc (.cells #[.int .u64 d.1, .int .u64 d.2] 30) = W := ⟨_, rfl⟩
  have HB0 : Hid (Below w.heap.size w W) := by rw [← hW]; exact (Below.refl _ w).alloc (Nat.le_refl _) _
  have HK : Hid (Bk W w.heap.size 30 #[.int .u64 d.1, .int .u64 d.2]) := by rw [← hW]; exact Bk.new w _ _
  obtain ⟨x0, x1, _, _⟩ := HK.out.two
  have HI := Lib.hid (indexD_any A n c B l d W (h0.below (HB0.out.mono hB) (Nat.le_refl _)) (by have := HB0.out.size; omega) hn)
  unfold digV at HI ⊢
  clear h0
  go_enter Tryz.func210, Tryz.ntmps210
  go_wp2_with fail
  refine HI.out.mono ?_
  rintro e w1 ⟨⟨z, rfl, hz⟩, hb⟩
  have HZ := Lib.hid hz
  have HB1 : Hid (Below w.heap.size w w1) := HB0.out.trans (hb.mono HB0.out.size)
  clear hz hb
  by_cases h : 0 ≤ z
  · have HM : Hid (d ∈ l) := HZ.out.1 h
    go_wp2_with fail
    go_ret
    exact ⟨ret_bool (by rw [decide_eq_true HM.out]), HB1.out⟩
  · have HM : Hid (d ∉ l) := fun hm => h (HZ.out.2 hm)
    go_wp2_with fail
    go_ret
    exact ⟨ret_bool (by rw [decide_eq_false HM.out]; simp; omega), HB1.out⟩
structure Osl where
  eA : Option Addr
  en : Nat
  ec : Nat
  pA : Option Addr
  pn : Nat
  pc : Nat
def obC (o : Ob) (s : Osl) : Array Value := #[.int .i64 o.kind, .string o.data, .slice s.eA s.en s.ec, .int .u64 o.tree.1, .int .u64 o.tree.2, .slice s.pA s.pn s.pc, .string o.auth, .int .i64 o.time, .string o.msg]
def obV (o : Ob) (s : Osl) : Value := .agg (obC o s)
structure ObM (w : World) (B : Nat) (o : Ob) (s : Osl) : Prop where
  e : Sl w B 4 s.eA s.en (flat enC o.ents)
  p : Sl w B 2 s.pA s.pn (flat dgC o.pars)
  ele : s.en ≤ s.ec
  emx : s.ec ≤ maxLen
  ple : s.pn ≤ s.pc
  pmx : s.pc ≤ maxLen
theorem ObM.below {w w' : World} {B B' : Nat} {o : Ob} {s : Osl} (h : ObM w B o s) (hb : Below B' w w') (hB : B ≤ B') : ObM w' B o s := ⟨h.e.below hb hB, h.p.below hb hB, h.ele, h.emx, h.ple, h.pmx⟩
theorem ObM.more {w : World} {B B' : Nat} {o : Ob} {s : Osl} (h : ObM w B o s) (hB : B ≤ B') : ObM w B' o s := ⟨h.e.more hB, h.p.more hB, h.ele, h.emx, h.ple, h.pmx⟩
theorem ObM.elen {w : World} {B : Nat} {o : Ob} {s : Osl} (h : ObM w B o s) : o.ents.length = s.en := h.e.len enC_len (by omega)
theorem ObM.plen {w : World} {B : Nat} {o : Ob} {s : Osl} (h : ObM w B o s) : o.pars.length = s.pn := h.p.len dgC_len (by omega)
theorem Bk.nine {w : World} {b : Nat} {t : TypeId} {x0 x1 x2 x3 x4 x5 x6 x7 x8 : Value} (h : Bk w b t #[x0, x1, x2, x3, x4, x5, x6, x7, x8]) : w.cell? ⟨b, 0, none⟩ = some x0 ∧ w.cell? ⟨b, 1, none⟩ = some x1 ∧ w.cell? ⟨b, 2, none⟩ = some x2 ∧ w.cell? ⟨b, 3, none⟩ = some x3 ∧ w.cell? ⟨b, 4, none⟩ = some x4 ∧ w.cell? ⟨b, 5, none⟩ = some x5 ∧ w.cell? ⟨b, 6, none⟩ = some x6 ∧ w.cell? ⟨b, 7, none⟩ = some x7 ∧ w.cell? ⟨b, 8, none⟩ = some x8 := by
  have c0 := h.cell 0; have c1 := h.cell 1; have c2 := h.cell 2; have c3 := h.cell 3; have c4 := h.cell 4; have c5 := h.cell 5; have c6 := h.cell 6; have c7 := h.cell 7; have c8 := h.cell 8
  simp at c0 c1 c2 c3 c4 c5 c6 c7 c8
  exact ⟨c0, c1, c2, c3, c4, c5, c6, c7, c8⟩
set_option maxRecDepth 100000 in
set_option maxHeartbeats 4000000 in
theorem ocheckC_any (o : Ob) (s : Osl) (B : Nat) (w : World) (hm : ObM w B o s) (hB : B ≤ w.heap.size) (hc : OkC o) :
    Calls Tryz.prog 191 #[obV o s] w fun e w' => e = .returned (.int .i64 0) ∧ Below w.heap.size w w' := by
  have HL := Lib.hid hm.plen
  have HP := Lib.hid hm.p
  have hn : s.pn ≤ 8 := by have := hc.pars.few; rw [HL.out] at this; exact this
  have HPS := Lib.hid hc.pars
  have hpc := hm.ple; have hpm := hm.pmx
  have htz := dig_nz hc.nz
  have hau := hc.auth
  have hns := nameB_size hc.auth
  have ht0 := hc.t0; have ht1 := hc.t1; have hms := hc.msg
  obtain ⟨kind, data, ents, ⟨t1, t2⟩, pars, auth, time, msg⟩ := o
  obtain ⟨eA, en, ec, pA, n, pc⟩ := s
  simp only at HL HP hn HPS hpc hpm htz hau hns ht0 ht1 hms
  simp only [obV, obC]
  have hnm : n ≤ 9223372036854775807 := by omega
  have hnz : ¬ (8 : Int) < (n : Int) := by omega
  have hq1 : ¬ time < 0 := by omega
  have hq2 : ¬ (1099511627776 : Int) < time := by omega
  have hq3 : ¬ (200 : Int) < (msg.size : Int) := by omega
  obtain ⟨W0, hW⟩ : ∃ W0, w.alloc (.cells #[.int .i64 kind, .string data, .slice eA en ec, .int .u64 t1, .int .u64 t2, .slice pA n pc, .string auth, .int .i64 time, .string msg] 82) = W0 := ⟨_, rfl⟩
  have HB0 : Hid (Below w.heap.size w W0) := by rw [← hW]; exact (Below.refl _ w).alloc (Nat.le_refl _) _
  have HK : Hid (Bk W0 w.heap.size 82 #[.int .i64 kind, .string data, .slice eA en ec, .int .u64 t1, .int .u64 t2, .slice pA n pc, .string auth, .int .i64 time, .string msg]) := by rw [← hW]; exact Bk.new w _ _
  have zk : w.heap.size < W0.heap.size := HK.out.lt
  obtain ⟨c0, c1, c2, c3, c4, c5, c6, c7, c8⟩ := HK.out.nine
  clear hm hc
  go_enter Tryz.func191, Tryz.ntmps191
  go_wp2_with fail
  clear hW
  go_loopw [16] (fun i wr => ∃ k : Nat, i = .int .i64 (k : Int) ∧ k ≤ n ∧ Hid (Below W0.heap.size W0 wr)) (fun i _ => n - (intOf i).toNat)
  case atStart => exact ⟨0, rfl, Nat.zero_le _, Below.refl _ _⟩
  case round =>
    obtain ⟨k, rfl, hk, hbw⟩ := hrel
    have zwr := hbw.out.size
    have HBw : Hid (Below w.heap.size w wr) := HB0.out.trans (hbw.out.mono HB0.out.size)
    clear c0 c1 c2 c3 c4 c5 c6 c7 c8
    obtain ⟨c0, c1, c2, c3, c4, c5, c6, c7, c8⟩ := (HK.out.below hbw.out zk).nine
    by_cases hlt : k < n
    · have hlz : (k : Int) < (n : Int) := by omega
      obtain ⟨bb, off, d, rfl, hbB, hd, y0, y1⟩ := (HP.out.below HBw.out hB).dg hlt
      have HD := Lib.hid hd
      have hdz := dig_nz (HPS.out.nz d (List.mem_of_getElem? hd))
      have HNI : Hid (d ∉ pars.take k) := fun hm => by
        obtain ⟨j, hj, e⟩ := List.getElem_of_mem hm
        rw [List.getElem_take] at e
        have h1 := List.getElem?_eq_some_iff.1 HD.out
        rw [List.length_take] at hj
        have := (List.getElem_inj (h₀ := by omega) (h₁ := h1.1) HPS.out.nod).1 (e.trans h1.2.symm)
        omega
      obtain ⟨d1, d2⟩ := d
      simp only at y0 y1 hdz
      obtain ⟨wb, hwb⟩ : ∃ wb, wr.alloc (.cells #[.int .u64 d1, .int .u64 d2] 30) = wb := ⟨_, rfl⟩
      have HBb : Hid (Below wr.heap.size wr wb) := by rw [← hwb]; exact (Below.refl _ wr).alloc (Nat.le_refl _) _
      have HKb : Hid (Bk wb wr.heap.size 30 #[.int .u64 d1, .int .u64 d2]) := by rw [← hwb]; exact Bk.new wr _ _
      have zwb : wb.heap.size = wr.heap.size + 1 := by rw [← hwb]; simp
      have HBwb : Hid (Below w.heap.size w wb) := HBw.out.trans (HBb.out.mono (by omega))
      have HCO : Hid (∀ Z, Below wb.heap.size wb Z → Calls Tryz.prog 210 #[.slice (some ⟨bb, off, none⟩) k pc, .agg #[.int .u64 d1, .int .u64 d2]] Z fun e w' => e = .returned (.bool false) ∧ Below Z.heap.size Z w') := fun Z hZ => by
        have hs : Sl Z B 2 (some ⟨bb, off, none⟩) k (flat dgC (pars.take k)) := by
          have h1 := (HP.out.below HBwb.out hB).below hZ (by have := HBwb.out.size; omega)
          refine ⟨by rw [flat_len dgC_len, List.length_take, HL.out]; rw [Nat.min_eq_left (by omega)], fun h0 => ?_⟩
          obtain ⟨b', o', e1, e2, e3⟩ := h1.2 (by omega)
          refine ⟨b', o', e1, e2, fun j u hu => e3 j u ?_⟩
          rw [flat_take dgC_len] at hu
          have hjl := (List.getElem?_eq_some_iff.1 hu).1
          rw [List.getElem?_take, if_pos (by rw [List.length_take] at hjl; omega)] at hu
          exact hu
        have h := containsD_any (some ⟨bb, off, none⟩) k pc B (pars.take k) (d1, d2) Z hs (by have := hZ.size; have := HBwb.out.size; omega) (by omega)
        rw [decide_eq_false HNI.out] at h
        exact h
      have b0 := HKb.out.cell 0; have b1 := HKb.out.cell 1
      simp at b0 b1
      have e5 := (HK.out.below (hbw.out.trans (HBb.out.mono zwr)) zk).nine.2.2.2.2.2.1
      have hsl : ∀ Z : World, (Instr.sliceAt 80 (.slice (some ⟨bb, off, none⟩) n pc) none (some (.int .i64 k)) none).run Tryz.prog Z = .ok (.slice (some ⟨bb, off, none⟩) k pc) Z := fun Z => by
        obtain ⟨i0, hi0, _⟩ := info_parts infoDg
        exact run_slice_to 80 i0 Tryz.underlying80 hi0 _ n pc k (by omega) Z
      have HWb := Lib.hid hwb
      clear hd hwb
      go_upto_region 10 with fail
      rw [HWb.out]
      refine wp_region_stableGD 5 (24 :: 25 :: 26 :: 27 :: 28 :: []) (by kernel_rfl) (by kernel_rfl) (by kernel_rfl) (fun W => Below wb.heap.size wb W) (fun W W' => Below W.heap.size W W')
        (vPhi ((.pointer (some ⟨w.heap.size, 5, none⟩)) :: (.slice (some ⟨bb, off, none⟩) n pc) :: (.int .i64 (k : Int)) :: (.slice (some ⟨bb, off, none⟩) k pc) :: (.agg #[.int .u64 d1, .int .u64 d2]) :: [])) (fun W W' h1 h2 => h1.trans (h2.mono h1.size)) (fun i v W W' h _ => h) (Below.refl _ _).drew ?stepC ?tailC
      case stepC =>
        intro i o vs W hi ho hv hR hphi
        obtain ⟨v0, v1, v2, v3, v4, rfl⟩ := ls5 hv
        simp only [List.zip, List.zipWith, putAll, Act.put, List.setIfInBounds_toArray, List.set]
        have hWz := hR.size
        have g5 := (hR.cell (p := ⟨w.heap.size, 5, none⟩) (by show w.heap.size < _; omega)).trans e5
        have g0 := (hR.cell (p := ⟨wr.heap.size, 0, none⟩) (by show wr.heap.size < _; omega)).trans b0
        have g1 := (hR.cell (p := ⟨wr.heap.size, 1, none⟩) (by show wr.heap.size < _; omega)).trans b1
        match i, hi, ho with
        | 0, _, rfl =>
          exact .inl ⟨rfl, gives_value (v := .pointer (some ⟨w.heap.size, 5, none⟩)) (w' := W) (by go_simp) ⟨Below.refl _ _, fun u hu => by cases hu; rfl⟩⟩
        | 1, _, rfl =>
          have e0 : v0 = _ := hphi ⟨0, .data⟩ (by simp) rfl v0 rfl _ rfl
          subst e0
          exact .inl ⟨rfl, gives_value (v := .slice (some ⟨bb, off, none⟩) n pc) (w' := W) (by go_simp) ⟨Below.refl _ _, fun u hu => by cases hu; rfl⟩⟩
        | 2, _, rfl =>
          exact .inl ⟨rfl, gives_value (v := .int .i64 (k : Int)) (w' := W) (by go_simp) ⟨Below.refl _ _, fun u hu => by cases hu; rfl⟩⟩
        | 3, _, rfl =>
          have e1 : v1 = _ := hphi ⟨1, .data⟩ (by simp) rfl v1 rfl _ rfl
          have e2 : v2 = _ := hphi ⟨2, .data⟩ (by simp) rfl v2 rfl _ rfl
          subst e1 e2
          exact .inl ⟨rfl, gives_value (v := .slice (some ⟨bb, off, none⟩) k pc) (w' := W) (by go_simp) ⟨Below.refl _ _, fun u hu => by cases hu; rfl⟩⟩
        | 4, _, rfl =>
          exact .inl ⟨rfl, gives_value (v := .agg #[.int .u64 d1, .int .u64 d2]) (w' := W) (by go_simp) ⟨Below.refl _ _, fun u hu => by cases hu; rfl⟩⟩
        | i + 5, hi, _ => exact absurd hi (by omega)
      case tailC =>
        intro vs W hv hR hphi
        obtain ⟨v0, v1, v2, v3, v4, rfl⟩ := ls5 hv
        simp only [List.zip, List.zipWith, putAll, Act.put, List.setIfInBounds_toArray, List.set, List.drop]
        have e0 : v0 = _ := hphi 0 v0 rfl _ rfl
        have e1 : v1 = _ := hphi 1 v1 rfl _ rfl
        have e2 : v2 = _ := hphi 2 v2 rfl _ rfl
        have e3 : v3 = _ := hphi 3 v3 rfl _ rfl
        have e4 : v4 = _ := hphi 4 v4 rfl _ rfl
        subst e0 e1 e2 e3 e4
        clear hphi hv
        have HBz : Hid (Below W0.heap.size W0 W) := hbw.out.trans ((HBb.out.trans (hR.mono (by omega))).mono zwr)
        have HR := Lib.hid hR
        clear hR
        go_wp2_with (first | (go_at_call 210; refine (HCO.out _ HR.out).mono ?_; rintro e w3 ⟨rfl, hb3⟩; refine halt_ ?_))
        refine unhalt ?_
        have HB3 : Hid (Below W0.heap.size W0 w3) := HBz.out.trans (hb3.mono HBz.out.size)
        clear hb3
        go_wp2_with fail
        go_roundw
        case rel => exact ⟨k + 1, by go_num, hlt, HB3.out⟩
        case measure => simp [intOf]; omega
    · have hlz : ¬ (k : Int) < (n : Int) := by omega
      go_wp2_with (first | (go_at_call 98; refine (vname_any auth _ (by unfold maxLen; omega)).mono ?_; rintro e w1 ⟨rfl, rfl⟩; rw [hau]))
      go_ret
      exact ⟨rfl, HBw.out⟩
theorem NoC.flds {o : Ob} (h : NoC o) : o.tree = (0, 0) ∧ o.pars.length = 0 ∧ o.auth = ⟨#[]⟩ ∧ o.time = 0 ∧ o.msg = ⟨#[]⟩ := ⟨h.tree, by rw [h.pars]; rfl, h.auth, h.time, h.msg⟩
set_option maxRecDepth 100000 in
set_option maxHeartbeats 4000000 in
theorem ocheck0_any (o : Ob) (s : Osl) (B : Nat) (w : World) (hm : ObM w B o s) (hB : B ≤ w.heap.size) (hf : OkF o) :
    Calls Tryz.prog 140 #[obV o s] w fun e w' => e = .returned (.int .i64 0) ∧ Below w.heap.size w w' := by
  obtain ⟨W0, hW⟩ : ∃ W, w.alloc (.cells (obC o s) 82) = W := ⟨_, rfl⟩
  have HB0 : Hid (Below w.heap.size w W0) := by rw [← hW]; exact (Below.refl _ w).alloc (Nat.le_refl _) _
  have HK : Hid (Bk W0 w.heap.size 82 (obC o s)) := by rw [← hW]; exact Bk.new w _ _
  have hm0 := hm.below (HB0.out.mono hB) (Nat.le_refl _)
  have hel := hm.elen; have hpl := hm.plen
  cases hf with
  | blob k e c d =>
    obtain ⟨h1, h2, h3, h4, h5⟩ := c.flds
    have he0 : s.en = 0 := by rw [← hel, e]; rfl
    have hp0 : s.pn = 0 := by rw [← hpl]; exact h2
    obtain ⟨kind, data, ents, tree, pars, auth, time, msg⟩ := o
    obtain ⟨eA, en, ec, pA, n, pc⟩ := s
    simp only at h1 h3 h4 h5 he0 hp0 k
    subst h1 h3 h4 h5 he0 hp0
    simp only [obV, obC] at hW HK ⊢
    obtain ⟨c0, c1, c2, c3, c4, c5, c6, c7, c8⟩ := HK.out.nine
    clear hm hm0 hel hpl e c d h2
    rcases k with rfl | rfl
    all_goals
      go_enter Tryz.func140, Tryz.ntmps140
      go_wp2
      go_ret
      exact ⟨rfl, HB0.out⟩
  | tree k d c e =>
    obtain ⟨h1, h2, h3, h4, h5⟩ := c.flds
    have hp0 : s.pn = 0 := by rw [← hpl]; exact h2
    have HE := Lib.hid (ocheckEs_any s.eA s.en s.ec B o.ents W0 hm0.e (by have := HB0.out.size; omega) e)
    obtain ⟨kind, data, ents, tree, pars, auth, time, msg⟩ := o
    obtain ⟨eA, en, ec, pA, n, pc⟩ := s
    simp only at h1 h3 h4 h5 hp0 k d HE
    subst h1 h3 h4 h5 hp0 k d
    simp only [obV, obC] at hW HK ⊢
    obtain ⟨c0, c1, c2, c3, c4, c5, c6, c7, c8⟩ := HK.out.nine
    clear hm hm0 hel hpl e c h2
    go_enter Tryz.func140, Tryz.ntmps140
    go_wp2_with (first | (go_at_call 190; refine HE.out.mono ?_; rintro e w1 ⟨rfl, hb⟩))
    all_goals
      go_ret
      exact ⟨rfl, HB0.out.trans (hb.mono HB0.out.size)⟩
  | commit k d e c =>
    have he0 : s.en = 0 := by rw [← hel, e]; rfl
    have HC := Lib.hid (ocheckC_any o s B W0 hm0 (by have := HB0.out.size; omega) c)
    have htz := dig_nz c.nz
    obtain ⟨kind, data, ents, ⟨t1, t2⟩, pars, auth, time, msg⟩ := o
    obtain ⟨eA, en, ec, pA, n, pc⟩ := s
    simp only at he0 k d htz
    subst he0 k d
    simp only [obV, obC] at hW HK HC ⊢
    obtain ⟨c0, c1, c2, c3, c4, c5, c6, c7, c8⟩ := HK.out.nine
    clear hm hm0 hel hpl e c
    go_enter Tryz.func140, Tryz.ntmps140
    go_wp2_with (first | (go_at_call 191; refine HC.out.mono ?_; rintro e w1 ⟨rfl, hb⟩))
    all_goals
      go_ret
      exact ⟨rfl, HB0.out.trans (hb.mono HB0.out.size)⟩
end Go.Proofs.YtmdhlkkekidknaaGreatDoor

namespace Go.Proofs.YtmdhlkkekidknaaGreatDoor
open Go.RowKit

def cmpI (x y : Int) : Int := if x < y then -1 else if y < x then 1 else 0
def orI : List Int → Int
  | [] => 0
  | a :: r => if a = 0 then orI r else a
theorem cmpD_or (a b : Dig) (h : a ≠ b) : cmpD a b = orI [cmpI a.1 b.1, cmpI a.2 b.2] := by
  unfold cmpD
  rw [if_neg h]
  obtain ⟨a1, a2⟩ := a; obtain ⟨b1, b2⟩ := b
  rw [ne_eq, Prod.mk.injEq] at h
  simp only [orI, cmpI, ltD]
  repeat' split
  all_goals first | rfl | omega
theorem isNaNu_any (x : Int) (w : World) : Calls Tryz.prog 165 #[.int .u64 x] w fun e w' => e = .returned (.bool false) ∧ w = w' := by
  go_enter Tryz.func165, Tryz.ntmps165
  have h : (x != x) = false := by simp
  go_wp2
  go_ret
  exact ⟨rfl, rfl⟩
theorem cmpu_any (x y : Int) (w : World) : Calls Tryz.prog 115 #[.int .u64 x, .int .u64 y] w fun e w' => e = .returned (.int .i64 (cmpI x y)) ∧ w = w' := by
  have H1 := Lib.hid (isNaNu_any x w)
  have H2 := Lib.hid (isNaNu_any y w)
  obtain ⟨z, hz⟩ : ∃ z, cmpI x y = z := ⟨_, rfl⟩
  have HZ := Lib.hid hz
  clear hz
  rw [HZ.out]
  go_enter Tryz.func115, Tryz.ntmps115
  go_wp2_with fail
  refine H1.out.mono ?_
  rintro e w1 ⟨rfl, rfl⟩
  go_wp2_with fail
  refine H2.out.mono ?_
  rintro e w1 ⟨rfl, rfl⟩
  by_cases h : x < y
  · have hz : Hid (z = -1) := by show _ = _; rw [← HZ.out]; exact if_pos h
    go_wp2_with fail
    go_ret
    exact ⟨by rw [hz.out]; rfl, rfl⟩
  · by_cases g : y < x
    · have hz : Hid (z = 1) := by show _ = _; rw [← HZ.out]; unfold cmpI; rw [if_neg h, if_pos g]
      go_wp2_with fail
      go_ret
      exact ⟨by rw [hz.out]; rfl, rfl⟩
    · have hz : Hid (z = 0) := by show _ = _; rw [← HZ.out]; unfold cmpI; rw [if_neg h, if_neg g]
      go_wp2_with fail
      go_ret
      exact ⟨by rw [hz.out]; rfl, rfl⟩
theorem cor_any (b : Nat) (t : TypeId) (x y : Int) (w : World) (h : Bk w b t #[.int .i64 x, .int .i64 y]) :
    Calls Tryz.prog 114 #[.slice (some ⟨b, 0, none⟩) 2 2] w fun e w' => e = .returned (.int .i64 (orI [x, y])) ∧ w = w' := by
  obtain ⟨c0, c1, _, _⟩ := h.two
  have H := Lib.hid h
  clear h
  go_enter Tryz.func114, Tryz.ntmps114
  by_cases hx : x = 0
  · have hxn : (x != 0) = false := by simp [hx]
    have HX := Lib.hid hx
    clear hx
    by_cases hy : y = 0
    · have hyn : (y != 0) = false := by simp [hy]
      have HY := Lib.hid hy
      clear hy
      go_wp2_with fail
      go_loopw [8] (fun i wr => ∃ k : Nat, k ≤ 2 ∧ i = .int .i64 k ∧ wr = w) (fun i _ => 2 - (intOf i).toNat)
      case atStart => exact ⟨0, by omega, rfl, rfl⟩
      case round =>
        obtain ⟨k, hk, rfl, rfl⟩ := hrel
        rcases (by omega : k = 0 ∨ k = 1 ∨ k = 2) with rfl | rfl | rfl
        · go_wp2_with fail
          go_roundw
          case rel => exact ⟨1, by omega, by go_num, trivial⟩
          case measure => simp [intOf]
        · go_wp2_with fail
          go_roundw
          case rel => exact ⟨2, by omega, by go_num, trivial⟩
          case measure => simp [intOf]
        · go_wp2_with fail
          go_ret
          exact ⟨by rw [HX.out, HY.out]; rfl, rfl⟩
    · have hyn : (y != 0) = true := by simp [hy]
      have HE : Hid (orI [x, y] = y) := by show _ = _; simp only [orI, HX.out, if_true]; split <;> simp_all
      clear hy
      go_wp2_with fail
      go_loopw [8] (fun i wr => ∃ k : Nat, k ≤ 1 ∧ i = .int .i64 k ∧ wr = w) (fun i _ => 2 - (intOf i).toNat)
      case atStart => exact ⟨0, by omega, rfl, rfl⟩
      case round =>
        obtain ⟨k, hk, rfl, rfl⟩ := hrel
        rcases (by omega : k = 0 ∨ k = 1) with rfl | rfl
        · go_wp2_with fail
          go_roundw
          case rel => exact ⟨1, by omega, by go_num, trivial⟩
          case measure => simp [intOf]
        · go_wp2_with fail
          go_ret
          exact ⟨by rw [HE.out]; rfl, rfl⟩
  · have hxn : (x != 0) = true := by simp [hx]
    have HE : Hid (orI [x, y] = x) := by show _ = _; simp [orI, hx]
    clear hx
    go_wp2_with fail
    go_loopw [8] (fun i wr => i = .int .i64 0 ∧ wr = w) (fun i _ => 0)
    case atStart => exact ⟨rfl, rfl⟩
    case round =>
      obtain ⟨rfl, rfl⟩ := hrel
      go_wp2_with fail
      go_ret
      exact ⟨by rw [HE.out]; rfl, rfl⟩
def SlP (a1 a2 b1 b2 : Int) (v : Value) (W : World) : Prop := ∃ b0, v = .slice (some ⟨b0, 0, none⟩) 2 2 ∧ Bk W b0 3 #[.int .i64 (cmpI a1 b1), .int .i64 (cmpI a2 b2)]
def CmE (a b : Dig) (w : World) (e : Ending) (w' : World) : Prop := e = .returned (.int .i64 (cmpD a b)) ∧ Below w.heap.size w w'
set_option maxRecDepth 100000 in
set_option maxHeartbeats 4000000 in
theorem dcmp_any (a b : Dig) (w : World) : Calls Tryz.prog 62 #[digV a, digV b] w (CmE a b w) := by
  obtain ⟨a1, a2⟩ := a; obtain ⟨b1, b2⟩ := b
  obtain ⟨z, hz⟩ : ∃ z, cmpD (a1, a2) (b1, b2) = z := ⟨_, rfl⟩
  have HZ := Lib.hid hz
  have HN : Hid (((a1, a2) : Dig) ≠ (b1, b2) → z = orI [cmpI a1 b1, cmpI a2 b2]) := fun h => by rw [← hz]; exact cmpD_or _ _ h
  clear hz
  unfold CmE
  rw [HZ.out]
  have HD : Hid ((a1 == b1 && a2 == b2) = decide (((a1, a2) : Dig) = (b1, b2))) := by
    show _ = _
    rw [Bool.eq_iff_iff]; simp
  simp only [digV]
  obtain ⟨wz, hW⟩ : ∃ wz, (w.alloc (.cells #[.int .u64 a1, .int .u64 a2] 30)).alloc (.cells #[.int .u64 b1, .int .u64 b2] 30) = wz := ⟨_, rfl⟩
  have HA : Hid (Bk wz w.heap.size 30 #[.int .u64 a1, .int .u64 a2]) := by rw [← hW]; exact (Bk.new w _ _).alloc _
  have HB : Hid (Bk wz (w.heap.size + 1) 30 #[.int .u64 b1, .int .u64 b2]) := by
    rw [← hW]
    have := Bk.new (w.alloc (.cells #[.int .u64 a1, .int .u64 a2] 30)) 30 #[.int .u64 b1, .int .u64 b2]
    rw [World.size_alloc] at this; exact this
  have HL : Hid (Below w.heap.size w wz) := by rw [← hW]; exact ((Below.refl _ w).alloc (Nat.le_refl _) _).alloc (by simp) _
  have hzW : w.heap.size + 2 = wz.heap.size := by rw [← hW]; simp
  obtain ⟨c0, c1, _, _⟩ := HA.out.two
  obtain ⟨c2, c3, _, _⟩ := HB.out.two
  have HC1 := Lib.hid (fun w => cmpu_any a1 b1 w)
  have HC2 := Lib.hid (fun w => cmpu_any a2 b2 w)
  by_cases h : ((a1, a2) : Dig) = (b1, b2)
  · have hd := HD.out
    rw [decide_eq_true h] at hd
    have H0 : Hid (z = 0) := by show _ = _; rw [← HZ.out]; exact (cmpD_zero _ _).2 h
    clear h
    go_enter Tryz.func62, Tryz.ntmps62
    go_wp2_with fail
    go_ret
    exact ⟨by rw [H0.out]; rfl, HL.out⟩
  · have hd := HD.out
    rw [decide_eq_false h] at hd
    have H0 : Hid (z = orI [cmpI a1 b1, cmpI a2 b2]) := HN.out h
    clear h
    go_enter Tryz.func62, Tryz.ntmps62
    go_wp2_with fail
    have HSP : Hid (∀ x ∈ [(10, SlP a1 a2 b1 b2)], ∀ v W W', x.2 v W → Below W.heap.size W W' → x.2 v W') := fun x hx v W W' h hb => by
      simp only [List.mem_singleton] at hx
      subst hx
      obtain ⟨b0, h1, h2⟩ := h
      exact ⟨b0, h1, h2.below hb h2.lt⟩
    have k0 := c0; have k1 := c1; have k2 := c2; have k3 := c3
    refine wp_region_stableGD 12 (8 :: 9 :: 10 :: 11 :: 12 :: 13 :: 14 :: 15 :: 16 :: 17 :: 18 :: 19 :: []) (by kernel_rfl) (by kernel_rfl) (by kernel_rfl) (fun W => Below wz.heap.size wz W) (fun W W' => Below W.heap.size W W')
      (gPhi [(10, SlP a1 a2 b1 b2)] ((.pointer (some ⟨w.heap.size, 0, none⟩)) :: (.int .u64 a1) :: (.pointer (some ⟨w.heap.size + 1, 0, none⟩)) :: (.int .u64 b1) :: (.int .i64 (cmpI a1 b1)) :: (.pointer (some ⟨w.heap.size, 1, none⟩)) :: (.int .u64 a2) :: (.pointer (some ⟨w.heap.size + 1, 1, none⟩)) :: (.int .u64 b2) :: (.int .i64 (cmpI a2 b2)) :: (undef) :: (.int .i64 (orI [cmpI a1 b1, cmpI a2 b2])) :: [])) (fun W W' h1 h2 => h1.trans (h2.mono h1.size)) (fun i v W W' h hb => gPhi_keep HSP.out i v W W' h hb) (Below.refl _ _).drew ?stepA ?tailA
    case stepA =>
      intro i o vs W hi ho hv hR hphi
      obtain ⟨v0, v1, v2, v3, v4, v5, v6, v7, v8, v9, v10, v11, rfl⟩ := ls12 hv
      simp only [List.zip, List.zipWith, putAll, Act.put, List.setIfInBounds_toArray, List.set]
      have hWz := hR.size
      have c0 := (hR.cell (p := ⟨w.heap.size, 0, none⟩) (by show w.heap.size < _; omega)).trans k0
      have c1 := (hR.cell (p := ⟨w.heap.size, 1, none⟩) (by show w.heap.size < _; omega)).trans k1
      have c2 := (hR.cell (p := ⟨w.heap.size + 1, 0, none⟩) (by show w.heap.size + 1 < _; omega)).trans k2
      have c3 := (hR.cell (p := ⟨w.heap.size + 1, 1, none⟩) (by show w.heap.size + 1 < _; omega)).trans k3
      match i, hi, ho with
      | 0, _, rfl =>
        exact .inl ⟨rfl, gives_value (v := .pointer (some ⟨w.heap.size, 0, none⟩)) (w' := W) (by go_simp) ⟨Below.refl _ _, fun u hu => by cases hu; rfl⟩⟩
      | 1, _, rfl =>
        have e0 : v0 = _ := hphi ⟨0, .data⟩ (by simp) rfl v0 rfl _ rfl
        subst e0
        exact .inl ⟨rfl, gives_value (v := .int .u64 a1) (w' := W) (by go_simp) ⟨Below.refl _ _, fun u hu => by cases hu; rfl⟩⟩
      | 2, _, rfl =>
        exact .inl ⟨rfl, gives_value (v := .pointer (some ⟨w.heap.size + 1, 0, none⟩)) (w' := W) (by go_simp) ⟨Below.refl _ _, fun u hu => by cases hu; rfl⟩⟩
      | 3, _, rfl =>
        have e2 : v2 = _ := hphi ⟨2, .data⟩ (by simp) rfl v2 rfl _ rfl
        subst e2
        exact .inl ⟨rfl, gives_value (v := .int .u64 b1) (w' := W) (by go_simp) ⟨Below.refl _ _, fun u hu => by cases hu; rfl⟩⟩
      | 4, _, rfl =>
        have e1 : v1 = _ := hphi ⟨1, .data⟩ (by simp) rfl v1 rfl _ rfl
        have e3 : v3 = _ := hphi ⟨3, .data⟩ (by simp) rfl v3 rfl _ rfl
        subst e1 e3
        refine .inl ⟨rfl, gives_call (f := 115) (args := #[.int .u64 a1, .int .u64 b1]) (by go_simp) ((HC1.out W).mono ?_)⟩
        rintro e W' ⟨rfl, rfl⟩
        exact ⟨_, rfl, Below.refl _ _, fun u hu => by cases hu; rfl⟩
      | 5, _, rfl =>
        exact .inl ⟨rfl, gives_value (v := .pointer (some ⟨w.heap.size, 1, none⟩)) (w' := W) (by go_simp) ⟨Below.refl _ _, fun u hu => by cases hu; rfl⟩⟩
      | 6, _, rfl =>
        have e5 : v5 = _ := hphi ⟨5, .data⟩ (by simp) rfl v5 rfl _ rfl
        subst e5
        exact .inl ⟨rfl, gives_value (v := .int .u64 a2) (w' := W) (by go_simp) ⟨Below.refl _ _, fun u hu => by cases hu; rfl⟩⟩
      | 7, _, rfl =>
        exact .inl ⟨rfl, gives_value (v := .pointer (some ⟨w.heap.size + 1, 1, none⟩)) (w' := W) (by go_simp) ⟨Below.refl _ _, fun u hu => by cases hu; rfl⟩⟩
      | 8, _, rfl =>
        have e7 : v7 = _ := hphi ⟨7, .data⟩ (by simp) rfl v7 rfl _ rfl
        subst e7
        exact .inl ⟨rfl, gives_value (v := .int .u64 b2) (w' := W) (by go_simp) ⟨Below.refl _ _, fun u hu => by cases hu; rfl⟩⟩
      | 9, _, rfl =>
        have e6 : v6 = _ := hphi ⟨6, .data⟩ (by simp) rfl v6 rfl _ rfl
        have e8 : v8 = _ := hphi ⟨8, .data⟩ (by simp) rfl v8 rfl _ rfl
        subst e6 e8
        refine .inl ⟨rfl, gives_call (f := 115) (args := #[.int .u64 a2, .int .u64 b2]) (by go_simp) ((HC2.out W).mono ?_)⟩
        rintro e W' ⟨rfl, rfl⟩
        exact ⟨_, rfl, Below.refl _ _, fun u hu => by cases hu; rfl⟩
      | 10, _, rfl =>
        have e4 : v4 = _ := hphi ⟨4, .data⟩ (by simp) rfl v4 rfl _ rfl
        have e9 : v9 = _ := hphi ⟨9, .data⟩ (by simp) rfl v9 rfl _ rfl
        subst e4 e9
        exact .inl ⟨rfl, gives_value (v := .slice (some ⟨W.heap.size, 0, none⟩) 2 2) (w' := W.alloc (.cells #[.int .i64 (cmpI a1 b1), .int .i64 (cmpI a2 b2)] 3)) (by go_simp) ⟨(Below.refl _ W).alloc (Nat.le_refl _) _, W.heap.size, rfl, Bk.new W _ _⟩⟩
      | 11, _, rfl =>
        obtain ⟨b0, rfl, hbk⟩ : (SlP a1 a2 b1 b2) v10 W := hphi ⟨10, .data⟩ (by simp) rfl v10 rfl
        refine .inl ⟨rfl, gives_call (f := 114) (args := #[.slice (some ⟨b0, 0, none⟩) 2 2]) (by go_simp) ((cor_any b0 3 _ _ W hbk).mono ?_)⟩
        rintro e W' ⟨rfl, rfl⟩
        exact ⟨_, rfl, Below.refl _ _, fun u hu => by cases hu; rfl⟩
      | i + 12, hi, _ => exact absurd hi (by omega)
    case tailA =>
      intro vs W hv hR hphi
      obtain ⟨v0, v1, v2, v3, v4, v5, v6, v7, v8, v9, v10, v11, rfl⟩ := ls12 hv
      simp only [List.zip, List.zipWith, putAll, Act.put, List.setIfInBounds_toArray, List.set, List.drop]
      have e0 : v0 = _ := hphi 0 v0 rfl _ rfl
      have e1 : v1 = _ := hphi 1 v1 rfl _ rfl
      have e2 : v2 = _ := hphi 2 v2 rfl _ rfl
      have e3 : v3 = _ := hphi 3 v3 rfl _ rfl
      have e4 : v4 = _ := hphi 4 v4 rfl _ rfl
      have e5 : v5 = _ := hphi 5 v5 rfl _ rfl
      have e6 : v6 = _ := hphi 6 v6 rfl _ rfl
      have e7 : v7 = _ := hphi 7 v7 rfl _ rfl
      have e8 : v8 = _ := hphi 8 v8 rfl _ rfl
      have e9 : v9 = _ := hphi 9 v9 rfl _ rfl
      have e10 : (SlP a1 a2 b1 b2) v10 W := hphi 10 v10 rfl
      have e11 : v11 = _ := hphi 11 v11 rfl _ rfl
      subst e0 e1 e2 e3 e4 e5 e6 e7 e8 e9 e11
      clear hphi hv
      obtain ⟨b0, rfl, _⟩ := e10
      go_wp2_with fail
      go_ret
      exact ⟨by rw [H0.out]; rfl, HL.out.trans (hR.mono (by omega))⟩
theorem cmpD_lt1 {a1 a2 b1 b2 : Int} (h : a1 < b1) : cmpD (a1, a2) (b1, b2) = -1 := by
  unfold cmpD ltD
  rw [if_neg (by rw [Prod.mk.injEq]; omega)]
  exact if_pos (Or.inl h)
theorem cmpD_gt1 {a1 a2 b1 b2 : Int} (h : b1 < a1) : cmpD (a1, a2) (b1, b2) = 1 := by
  unfold cmpD ltD
  rw [if_neg (by rw [Prod.mk.injEq]; omega)]
  exact if_neg (by simp only; omega)
theorem cmpD_snd {a1 a2 b1 b2 : Int} (h : ¬ a1 < b1) (g : ¬ b1 < a1) : cmpD (a1, a2) (b1, b2) = cmpI a2 b2 := by
  obtain rfl : a1 = b1 := by omega
  unfold cmpD ltD cmpI
  simp only [Prod.mk.injEq, true_and]
  repeat' split
  all_goals first | rfl | omega
set_option maxRecDepth 100000 in
set_option maxHeartbeats 4000000 in
theorem dcmp2_any (a b : Dig) (w : World) : Calls Tryz.prog 86 #[digV a, digV b] w (CmE a b w) := by
  obtain ⟨a1, a2⟩ := a; obtain ⟨b1, b2⟩ := b
  obtain ⟨z, hz⟩ : ∃ z, cmpD (a1, a2) (b1, b2) = z := ⟨_, rfl⟩
  have HZ := Lib.hid hz
  clear hz
  unfold CmE
  rw [HZ.out]
  simp only [digV]
  obtain ⟨W, hW⟩ : ∃ W, (w.alloc (.cells #[.int .u64 a1, .int .u64 a2] 30)).alloc (.cells #[.int .u64 b1, .int .u64 b2] 30) = W := ⟨_, rfl⟩
  have HA : Hid (Bk W w.heap.size 30 #[.int .u64 a1, .int .u64 a2]) := by rw [← hW]; exact (Bk.new w _ _).alloc _
  have HB : Hid (Bk W (w.heap.size + 1) 30 #[.int .u64 b1, .int .u64 b2]) := by
    rw [← hW]
    have := Bk.new (w.alloc (.cells #[.int .u64 a1, .int .u64 a2] 30)) 30 #[.int .u64 b1, .int .u64 b2]
    rw [World.size_alloc] at this; exact this
  have HL : Hid (Below w.heap.size w W) := by rw [← hW]; exact ((Below.refl _ w).alloc (Nat.le_refl _) _).alloc (by simp) _
  have hzW : w.heap.size + 2 = W.heap.size := by rw [← hW]; simp
  obtain ⟨c0, c1, _, _⟩ := HA.out.two
  obtain ⟨c2, c3, _, _⟩ := HB.out.two
  go_enter Tryz.func86, Tryz.ntmps86
  by_cases h1 : a1 < b1
  · have H1 : Hid (z = -1) := by show _ = _; rw [← HZ.out]; exact cmpD_lt1 h1
    go_wp2_with fail
    go_loopw [5] (fun i wr => i = .int .i64 0 ∧ wr = W) (fun i _ => 0)
    case atStart => exact ⟨rfl, rfl⟩
    case round =>
      obtain ⟨rfl, rfl⟩ := hrel
      go_wp2_with fail
      go_quiet (fail)
      go_wp2_with fail
      go_ret
      exact ⟨by rw [H1.out]; rfl, below_drewN HL.out _⟩
  by_cases g1 : b1 < a1
  · have H1 : Hid (z = 1) := by show _ = _; rw [← HZ.out]; exact cmpD_gt1 g1
    go_wp2_with fail
    go_loopw [5] (fun i wr => i = .int .i64 0 ∧ wr = W) (fun i _ => 0)
    case atStart => exact ⟨rfl, rfl⟩
    case round =>
      obtain ⟨rfl, rfl⟩ := hrel
      go_wp2_with fail
      go_quiet (fail)
      go_wp2_with fail
      go_quiet (fail)
      go_wp2_with fail
      go_ret
      exact ⟨by rw [H1.out]; rfl, below_drewN (below_drewN HL.out _) _⟩
  have H1 : Hid (z = cmpI a2 b2) := by show _ = _; rw [← HZ.out]; exact cmpD_snd h1 g1
  by_cases h2 : a2 < b2
  · have H2 : Hid (z = -1) := by show _ = _; rw [H1.out]; unfold cmpI; rw [if_pos h2]
    go_wp2_with fail
    go_loopw [5] (fun i wr => ∃ k nq : Nat, k ≤ 1 ∧ i = .int .i64 k ∧ wr = W.drewN nq) (fun i _ => 2 - (intOf i).toNat)
    case atStart => exact ⟨0, 0, by omega, rfl, rfl⟩
    case round =>
      obtain ⟨k, nq, hk, rfl, rfl⟩ := hrel
      rcases (by omega : k = 0 ∨ k = 1) with rfl | rfl
      · go_wp2_with fail
        go_quiet (fail)
        go_wp2_with fail
        go_quiet (fail)
        go_wp2_with fail
        go_roundw
        case rel => exact ⟨1, _, by omega, by go_num, rfl⟩
        case measure => simp [intOf]
      · go_wp2_with fail
        go_quiet (fail)
        go_wp2_with fail
        go_ret
        exact ⟨by rw [H2.out]; rfl, below_drewN (below_drewN HL.out _) _⟩
  by_cases g2 : b2 < a2
  · have H2 : Hid (z = 1) := by show _ = _; rw [H1.out]; unfold cmpI; rw [if_neg h2, if_pos g2]
    go_wp2_with fail
    go_loopw [5] (fun i wr => ∃ k nq : Nat, k ≤ 1 ∧ i = .int .i64 k ∧ wr = W.drewN nq) (fun i _ => 2 - (intOf i).toNat)
    case atStart => exact ⟨0, 0, by omega, rfl, rfl⟩
    case round =>
      obtain ⟨k, nq, hk, rfl, rfl⟩ := hrel
      rcases (by omega : k = 0 ∨ k = 1) with rfl | rfl
      · go_wp2_with fail
        go_quiet (fail)
        go_wp2_with fail
        go_quiet (fail)
        go_wp2_with fail
        go_roundw
        case rel => exact ⟨1, _, by omega, by go_num, rfl⟩
        case measure => simp [intOf]
      · go_wp2_with fail
        go_quiet (fail)
        go_wp2_with fail
        go_quiet (fail)
        go_wp2_with fail
        go_ret
        exact ⟨by rw [H2.out]; rfl, below_drewN (below_drewN (below_drewN HL.out _) _) _⟩
  · have H2 : Hid (z = 0) := by show _ = _; rw [H1.out]; unfold cmpI; rw [if_neg h2, if_neg g2]
    go_wp2_with fail
    go_loopw [5] (fun i wr => ∃ k nq : Nat, k ≤ 2 ∧ i = .int .i64 k ∧ wr = W.drewN nq) (fun i _ => 2 - (intOf i).toNat)
    case atStart => exact ⟨0, 0, by omega, rfl, rfl⟩
    case round =>
      obtain ⟨k, nq, hk, rfl, rfl⟩ := hrel
      rcases (by omega : k = 0 ∨ k = 1 ∨ k = 2) with rfl | rfl | rfl
      · go_wp2_with fail
        go_quiet (fail)
        go_wp2_with fail
        go_quiet (fail)
        go_wp2_with fail
        go_roundw
        case rel => exact ⟨1, _, by omega, by go_num, rfl⟩
        case measure => simp [intOf]
      · go_wp2_with fail
        go_quiet (fail)
        go_wp2_with fail
        go_quiet (fail)
        go_wp2_with fail
        go_roundw
        case rel => exact ⟨2, _, by omega, by go_num, rfl⟩
        case measure => simp [intOf]
      · go_wp2_with fail
        go_ret
        exact ⟨by rw [H2.out]; rfl, below_drewN HL.out _⟩
end Go.Proofs.YtmdhlkkekidknaaGreatDoor
