/-
  Lemmas: TreeOneFile in plain Lean: what Get says before and behind an edit. The reference's Find (XRL1's part, for seats without the reference of law39). TreeOneFile: the law.
-/
import Derived.Test.YtmdhlkkekidknaaGreatDoorU11

namespace Go.Proofs.YtmdhlkkekidknaaGreatDoor
open Go.RowKit

theorem get_mem {q : List Itm} {d : Dig} {l : List Fl} {s : ByteArray} {k : Nat} (hq : PlOk q) (hl : OkL l) (hs : Std q k d l) (h : (gtR q d s).2 = 0) : ∃ b, (s, b) ∈ l ∧ gtR q d s = (b, 0) := by
  cases hp : pathB s with
  | false =>
    unfold gtR at h
    rw [if_neg (by rw [hp]; simp)] at h
    cases h
  | true =>
    obtain ⟨h1, h2⟩ := std_gtR hq hl hs hp
    by_cases hm : ∃ f ∈ l, f.1 = s
    · obtain ⟨⟨a, b⟩, hf, rfl⟩ := hm
      exact ⟨b, hf, h1 b hf⟩
    · exact absurd h (h2 (fun f hf e => hm ⟨f, hf, e⟩)).1
theorem set_err {q : List Itm} {d : Dig} {fs : List Fl} {path data : ByteArray} {w w' : World} {e : Ending} (hok : OkL fs) (hasc : AscF fs) (hn : fs.length ≤ 199) (hld : LdSeq q d fs) (h : EdtE q d (setF path data) w e w') :
    ((∃ z : Int, (z = 6 ∨ z = 7 ∨ z = 16) ∧ e = .returned (.tuple #[.slice none 0 0, digV zD, .int .i64 z])) ∨ (pathB path = true ∧ TckR (withF fs (path, data)) 0 ∧ ∃ q2 d2 A c, sto 101 q (withF fs (path, data)) = some (q2, d2) ∧ StoR q q2 d2 (withF fs (path, data)) ∧ e = .returned (.tuple #[.slice A q2.length c, digV d2, .int .i64 0]) ∧ Sl w' w'.heap.size 3 A q2.length (flat itC q2) ∧ q2.length ≤ c ∧ c ≤ maxLen)) ∧ Below w.heap.size w w' := by
  obtain ⟨h, hb⟩ := h
  refine ⟨?_, hb⟩
  rcases h with ⟨err, h1, _⟩ | ⟨fs', h1, h2⟩
  · exact (ld_not hld h1).elim
  · have := ld_uniq h1 hld
    subst this
    cases hp : pathB path with
    | false =>
      have hset : setF path data fs' = (6, []) := by unfold setF; rw [if_neg (by rw [hp]; simp)]
      rw [hset] at h2
      rcases h2 with ⟨_, rfl⟩ | ⟨h3, _⟩
      · exact .inl ⟨6, .inl rfl, rfl⟩
      · cases h3
    | true =>
      have hset : setF path data fs' = (0, withF fs' (path, data)) := by unfold setF; rw [if_pos hp]
      rw [hset] at h2
      rcases h2 with ⟨h3, _⟩ | ⟨_, ⟨z, h4, h5, rfl⟩ | ⟨h4, ⟨q2, d2, A, c, h5, h6, rfl, h7, h8, h9⟩ | ⟨_, rfl⟩⟩⟩
      · exact absurd rfl h3
      · rcases ck_with hok hasc hn hp h4 with h6 | h6
        · exact absurd h6 h5
        · exact .inl ⟨z, .inr (.inl h6), rfl⟩
      · exact .inr ⟨rfl, h4, q2, d2, A, c, h5, h6, rfl, h7, h8, h9⟩
      · exact .inl ⟨16, .inr (.inr rfl), rfl⟩
theorem rem_err {q : List Itm} {d : Dig} {fs : List Fl} {path : ByteArray} {w w' : World} {e : Ending} (hok : OkL fs) (hasc : AscF fs) (hp : pathB path = true) (hm : (lookF9 fs path).isSome = true) (hld : LdSeq q d fs) (h : EdtE q d (remF path) w e w') :
    ((e = .returned (.tuple #[.slice none 0 0, digV zD, .int .i64 16])) ∨ (∃ q2 d2 A c, sto 101 q (wotF fs path) = some (q2, d2) ∧ StoR q q2 d2 (wotF fs path) ∧ e = .returned (.tuple #[.slice A q2.length c, digV d2, .int .i64 0]) ∧ Sl w' w'.heap.size 3 A q2.length (flat itC q2) ∧ q2.length ≤ c ∧ c ≤ maxLen)) ∧ Below w.heap.size w w' := by
  obtain ⟨h, hb⟩ := h
  refine ⟨?_, hb⟩
  rcases h with ⟨err, h1, _⟩ | ⟨fs', h1, h2⟩
  · exact (ld_not hld h1).elim
  · have := ld_uniq h1 hld
    subst this
    obtain ⟨dd, hdd⟩ := Option.isSome_iff_exists.1 hm
    have hrem : remF path fs' = (0, wotF fs' path) := by unfold remF; rw [if_pos hp, hdd]
    have hck : TckR (wotF fs' path) 0 := ck_back (okL_wot hok path) (asc_wotF hasc path)
    rw [hrem] at h2
    rcases h2 with ⟨h3, _⟩ | ⟨_, ⟨z, h4, h5, _⟩ | ⟨_, ⟨q2, d2, A, c, h5, h6, rfl, h7, h8, h9⟩ | ⟨_, rfl⟩⟩⟩
    · exact absurd rfl h3
    · exact absurd (TckR.same h4 hck) h5
    · exact .inr ⟨q2, d2, A, c, h5, h6, rfl, h7, h8, h9⟩
    · exact .inl rfl
theorem get_set {q q2 : List Itm} {d d2 : Dig} {l : List Fl} {path data other : ByteArray} {k k2 : Nat} (hq : PlOk q) (hl : OkL l) (hs : Std q k d l) (hq2 : PlOk q2) (hl2 : OkL (withF l (path, data))) (hs2 : Std q2 k2 d2 (withF l (path, data))) (hne : other ≠ path) (h : (gtR q d other).2 = 0) : gtR q2 d2 other = gtR q d other := by
  obtain ⟨b, hb, e⟩ := get_mem hq hl hs h
  rw [e]
  exact (std_gtR hq2 hl2 hs2 (hl.path _ hb)).1 b (mem_withF.2 (.inl ⟨hb, hne⟩))
theorem get_rem {q q3 : List Itm} {d d3 : Dig} {l : List Fl} {path data other : ByteArray} {k k3 : Nat} (hq : PlOk q) (hl : OkL l) (hs : Std q k d l) (hq3 : PlOk q3) (hl3 : OkL (wotF (withF l (path, data)) path)) (hs3 : Std q3 k3 d3 (wotF (withF l (path, data)) path)) (hne : other ≠ path) (h : (gtR q d other).2 = 0) : gtR q3 d3 other = gtR q d other := by
  obtain ⟨b, hb, e⟩ := get_mem hq hl hs h
  rw [e]
  exact (std_gtR hq3 hl3 hs3 (hl.path _ hb)).1 b (mem_wotF.2 ⟨mem_withF.2 (.inl ⟨hb, hne⟩), hne⟩)
theorem get_gone {q3 : List Itm} {d3 : Dig} {l : List Fl} {path data : ByteArray} {k3 : Nat} (hq3 : PlOk q3) (hl2 : OkL (withF l (path, data))) (hs3 : Std q3 k3 d3 (wotF (withF l (path, data)) path)) (hp : pathB path = true) : (gtR q3 d3 path).2 = 8 := by
  have h := (std_gtR hq3 (okL_wot hl2 path) hs3 hp).2 (fun f hf => (mem_wotF.1 hf).2)
  have hm : (path, data) ∈ withF l (path, data) := mem_withF.2 (.inr rfl)
  exact h.2 (fun f hf => ⟨hl2.nob f (mem_wotF.1 hf).1 _ hm, hl2.nob _ hm f (mem_wotF.1 hf).1⟩)
theorem back_same {q q2 q3 : List Itm} {d d3 : Dig} {l : List Fl} {path data : ByteArray} (hl : OkL l) (ha : AscF l) (hs : Std q 101 d l) (hq : PlOk q) (hq2 : PlOk q2) (hsub : subP q q2) (hno : ∀ f ∈ l, f.1 ≠ path) (h3 : sto 101 q2 (wotF (withF l (path, data)) path) = some (q3, d3)) : d3 = d := by
  have e : wotF (withF l (path, data)) path = l := wot_with ha (f := (path, data)) hno
  rw [e, std_sto hq2 101 d l hl (hs.mono hq hq2 hsub)] at h3
  injection h3 with h3
  injection h3 with _ h4
  exact h4.symm
end Go.Proofs.YtmdhlkkekidknaaGreatDoor

namespace Go.Proofs.YtmdhlkkekidknaaGreatDoor
open Go.RowKit Go.Shelf

def FdEnd (mb : Bool) (w : World) (e : Ending) (w' : World) : Prop := (∃ d, e = .returned (.tuple #[.string d, .bool mb])) ∧ w = w'
set_option maxRecDepth 100000 in
set_option maxHeartbeats 1000000 in
theorem find9_any (A : Option Addr) (n c B : Nat) (fs : List Fl) (p : ByteArray) (w : World) (h0 : Sl w B 2 A n (flat flC fs)) (hn : n ≤ 1000000) :
    Calls Tryz.prog 66 #[.slice A n c, .string p] w (FdEnd (memB (fs.map Prod.fst) p) w) := by
  have HL := Lib.hid (h0.len flC_len (by omega))
  have H0 := Lib.hid h0; clear h0
  go_enter Tryz.func66, Tryz.ntmps66
  go_wp2
  go_loopw [6] (fun i wr => ∃ k : Nat, k ≤ n ∧ i = .int .i64 k ∧ Hid (∀ f ∈ fs.take k, f.1 ≠ p) ∧ wr = w) (fun i _ => n - (intOf i).toNat)
  case atStart => exact ⟨0, Nat.zero_le _, rfl, fun f hf => by simp at hf, rfl⟩
  case round =>
    obtain ⟨k, hk, rfl, hN, rfl⟩ := hrel
    by_cases hlt : k < n
    · obtain ⟨b, off, f, rfl, hb, hf, y0, y1⟩ := H0.out.fl hlt
      have hkz : (k : Int) < (n : Int) := by omega
      have HF := Lib.hid hf; clear hf
      have hse := str_dec f.1 p
      by_cases e : f.1 = p
      · have HM : Hid (memB (fs.map Prod.fst) p = true) := (memB_iff _ _).2 (List.mem_map.2 ⟨f, List.mem_of_getElem? HF.out, e⟩)
        rw [decide_eq_true e] at hse
        clear e
        generalize memB (fs.map Prod.fst) p = mb at HM ⊢
        obtain rfl : mb = true := HM.out
        go_wp2
        go_ret2
        exact ⟨⟨_, rfl⟩, rfl⟩
      · rw [decide_eq_false e] at hse
        have HN : Hid (∀ f ∈ fs.take (k + 1), f.1 ≠ p) := fun y hy => by
          rw [take_snoc HF.out] at hy
          rcases List.mem_append.1 hy with hy | hy
          · exact hN.out y hy
          · rw [List.mem_singleton.1 hy]; exact e
        clear e
        go_wp2
        go_roundw
        case rel => exact ⟨k + 1, hlt, by go_num, HN.out, trivial⟩
        case measure => simp [intOf]; omega
    · have hkz : ¬ (k : Int) < (n : Int) := by omega
      have HM : Hid (memB (fs.map Prod.fst) p = false) := by
        show _ = _
        rw [Bool.eq_false_iff]; intro hh
        obtain ⟨f, hf, e⟩ := List.mem_map.1 ((memB_iff _ _).1 hh)
        exact hN.out f (by rw [List.take_of_length_le (by rw [HL.out]; omega)]; exact hf) e
      go_wp2
      go_ret2
      exact ⟨⟨⟨#[]⟩, by rw [HM.out]; rfl⟩, rfl⟩
theorem findU9_any (A : Option Addr) (n c B : Nat) (fs : List Fl) (p : ByteArray) (w : World) (h0 : Sl w B 2 A n (flat flC fs)) (hn : n ≤ 1000000) :
    Calls Tryz.prog 30 #[.slice A n c, .string p] w (FdEnd (memB (fs.map Prod.fst) p) w) := by
  have HF := Lib.hid (find9_any A n c B fs p w h0 hn)
  clear h0
  generalize memB (fs.map Prod.fst) p = mb at HF ⊢
  go_enter Tryz.func30, Tryz.ntmps30
  go_wp2_with fail
  refine HF.out.mono ?_
  rintro e w1 ⟨⟨d, rfl⟩, rfl⟩
  go_wp2_with fail
  go_ret2
  exact ⟨⟨_, rfl⟩, rfl⟩
end Go.Proofs.YtmdhlkkekidknaaGreatDoor

namespace Go.Proofs.YtmdhlkkekidknaaGreatDoor
open Go.RowKit

set_option maxRecDepth 100000 in
set_option maxHeartbeats 32000000 in
theorem lawOne_any (A : Option Addr) (n c : Nat) (fs : List Fl) (path data other : ByteArray) (w : World) (h0 : Sl w w.heap.size 2 A n (flat flC fs)) (hn : n ≤ maxLen) (hs : ∀ f ∈ fs, f.1.size ≤ maxLen ∧ f.2.size ≤ maxLen) (hp : path.size ≤ maxLen) (hd : data.size ≤ maxLen) (ho : other.size ≤ maxLen) :
    Calls Tryz.prog 7 #[.slice A n c, .string path, .string data, .string other] w (LawE w) := by
  have H0 := Lib.hid h0
  have HG := Lib.hid (great9_any A n c w.heap.size fs w h0 hn hs)
  unfold Gr9End at HG
  have hp' : path.size ≤ 9223372036854775807 := by unfold maxLen at hp; exact hp
  have hd' : data.size ≤ 9223372036854775807 := by unfold maxLen at hd; exact hd
  have ho' : other.size ≤ 9223372036854775807 := by unfold maxLen at ho; exact ho
  have HAW := Lib.hid awake_any
  unfold LawE at HAW ⊢
  clear h0 hs hp hd ho
  have awk : Hid (∀ W, Below w.heap.size w W → Calls Tryz.prog 14 #[] W fun e w' => e = .returned (.bool true) ∧ Below w.heap.size w w') := fun W hW => (HAW.out W).mono fun e w' ⟨h1, h2⟩ => ⟨h1, hW.trans (h2.mono hW.size)⟩
  have HB_0 : Hid (Below w.heap.size w w) := Below.refl _ _
  go_enter Tryz.func7, Tryz.ntmps7
  go_wp2_with fail
  refine HG.out.mono ?_
  rintro e w1 ⟨r, rfl, hr, rfl⟩
  have HR := Lib.hid hr
  clear hr HG
  cases r with
  | true =>
    go_wp2_with fail
    refine (awk.out _ HB_0.out).mono ?_
    rintro e wz ⟨rfl, hb⟩
    have HBZ := Lib.hid hb; clear hb
    go_wp2_with fail
    go_ret
    exact ⟨rfl, HBZ.out⟩
  | false =>
    by_cases c1 : (200 : Int) < (path.size : Int)
    · clear HR
      go_wp2_with fail
      refine (awk.out _ HB_0.out).mono ?_
      rintro e wz ⟨rfl, hb⟩
      have HBZ := Lib.hid hb; clear hb
      go_wp2_with fail
      go_ret
      exact ⟨rfl, HBZ.out⟩
    by_cases c2 : (200 : Int) < (data.size : Int)
    · clear HR
      go_wp2_with fail
      refine (awk.out _ HB_0.out).mono ?_
      rintro e wz ⟨rfl, hb⟩
      have HBZ := Lib.hid hb; clear hb
      go_wp2_with fail
      go_ret
      exact ⟨rfl, HBZ.out⟩
    by_cases c3 : (200 : Int) < (other.size : Int)
    · clear HR
      go_wp2_with fail
      refine (awk.out _ HB_0.out).mono ?_
      rintro e wz ⟨rfl, hb⟩
      have HBZ := Lib.hid hb; clear hb
      go_wp2_with fail
      go_ret
      exact ⟨rfl, HBZ.out⟩
    obtain ⟨hn10, hfs⟩ := HR.out rfl
    have HFS := Lib.hid hfs
    have hp2 : path.size ≤ 200 := by omega
    have hd2 : data.size ≤ 200 := by omega
    have ho2 : other.size ≤ 200 := by omega
    have HLF := Lib.hid (H0.out.len flC_len (by omega))
    have HST := Lib.hid (tstore_any none 0 0 w.heap.size [] A n c fs w ⟨rfl, fun h => absurd h (Nat.lt_irrefl 0)⟩ H0.out (Nat.le_refl _) (Nat.le_refl _) (Nat.zero_le _) (Nat.zero_le _) (by omega) PlOk.nil (fun f hf => ⟨by have := (HFS.out f hf).1; omega, by have := (HFS.out f hf).2; omega⟩))
    clear hfs
    go_wp2_with fail
    refine HST.out.mono ?_
    rintro e w2 hst
    obtain ⟨hst, hb⟩ := str_of (fun f hf => by have := (HFS.out f hf).2; omega) hst
    have HB_2 := Lib.hid hb
    clear hb HST
    rcases hst with ⟨z, hz, rfl⟩ | ⟨hok, hasc, q, ⟨d1, d2⟩, A2, c2, hsto, hsr, rfl, hsl, hqc, hcm⟩
    case inl =>
      have t1 : (z != 0) = true := by rw [bne_iff_ne]; exact hz
      clear hz
      simp only [digV, zD]
      have HB_3 : Hid (Below w.heap.size w (w2.alloc (.cells #[.int .u64 0, .int .u64 0] 30))) := HB_2.out.alloc HB_2.out.size _
      go_wp2_with fail
      refine (awk.out _ HB_3.out).mono ?_
      rintro e wz ⟨rfl, hb⟩
      have HBZ := Lib.hid hb; clear hb
      go_wp2_with fail
      go_ret
      exact ⟨rfl, HBZ.out⟩
    case inr =>
      have HOK := Lib.hid hok; have HASC := Lib.hid hasc
      obtain ⟨hstd, hpl, _⟩ := sto_std 101 [] fs q (d1, d2) hok PlOk.nil hsto
      have HSTD := Lib.hid hstd; have HPL := Lib.hid hpl
      have HSM : Hid (SmP q) := sto_small 101 [] fs q (d1, d2) hok PlOk.nil (fun i hi => by cases hi) (fun f hf => by have := (HFS.out f hf).2; omega) hsto
      have HLD := Lib.hid (std_load hpl hok hstd hasc)
      have hq7 : q.length ≤ 30000 := by
        have h1 := hsr.len
        have h2 := wt_ok hok
        simp only [List.length_nil] at h1
        omega
      obtain ⟨W3, hW3⟩ : ∃ W3, w2.alloc (.cells #[.int .u64 d1, .int .u64 d2] 30) = W3 := ⟨_, rfl⟩
      have hb : Below w2.heap.size w2 W3 := by rw [← hW3]; exact (Below.refl _ w2).alloc (Nat.le_refl _) _
      have HB_3 : Hid (Below w.heap.size w W3) := HB_2.out.trans (hb.mono HB_2.out.size)
      have HK_3 : Hid (Bk W3 w2.heap.size 30 #[.int .u64 d1, .int .u64 d2]) := by rw [← hW3]; exact Bk.new w2 _ _
      have HSL := Lib.hid hsl
      have HS_3 := Lib.hid (sl_on HSL.out hb)
      have HF_3 := Lib.hid (H0.out.below HB_3.out (Nat.le_refl _))
      clear hok hasc hsto hsr hsl hstd hpl hb HSL
      have HC := Lib.hid (tget_any A2 q.length c2 W3.heap.size q (d1, d2) other W3 HS_3.out (Nat.le_refl _) (by omega) HPL.out (by omega))
      unfold TgE at HC
      obtain ⟨⟨r0, e0⟩, hr0⟩ : ∃ g, gtR q (d1, d2) other = g := ⟨_, rfl⟩
      rw [hr0] at HC
      have HR0 := Lib.hid hr0
      simp only [digV] at HC ⊢
      have HW3 := Lib.hid hW3
      obtain ⟨x0, x1, _, _⟩ := HK_3.out.two
      rw [← hW3] at x0 x1
      clear hW3 hr0 HB_2
      go_wp2_with fail
      rw [HW3.out]
      refine HC.out.mono ?_
      rintro e w4 ⟨rfl, hb⟩
      have HB_4 : Hid (Below w.heap.size w w4) := HB_3.out.trans (hb.mono HB_3.out.size)
      have HK_4 := Lib.hid (HK_3.out.below hb HK_3.out.lt)
      have HS_4 := Lib.hid (sl_on HS_3.out hb)
      have HF_4 := Lib.hid (H0.out.below HB_4.out (Nat.le_refl _))
      clear HF_3 HW3
      clear hb HC HB_3 HK_3 HS_3 x0 x1
      obtain ⟨x0, x1, _, _⟩ := HK_4.out.two
      have HC := Lib.hid (findU9_any A n c w.heap.size fs path w4 HF_4.out (by omega))
      unfold FdEnd at HC
      obtain ⟨mb, hmb⟩ : ∃ mb, memB (fs.map Prod.fst) path = mb := ⟨_, rfl⟩
      rw [hmb] at HC
      have HMB := Lib.hid hmb
      clear hmb
      go_wp2_with fail
      refine HC.out.mono ?_
      rintro e w5 ⟨⟨dx, rfl⟩, rfl⟩
      clear HC
      have HC := Lib.hid (tset_any A2 q.length c2 w4.heap.size q (d1, d2) path data w4 HS_4.out (Nat.le_refl _) hqc hcm (by omega) HPL.out HSM.out (by omega) (by omega))
      simp only [digV] at HC
      go_wp2_with fail
      refine HC.out.mono ?_
      rintro e w6 hst
      obtain ⟨hst, hb⟩ := set_err HOK.out HASC.out (by rw [HLF.out]; omega) HLD.out hst
      have HB_6 : Hid (Below w.heap.size w w6) := HB_4.out.trans (hb.mono HB_4.out.size)
      have HK_6 := Lib.hid (HK_4.out.below hb HK_4.out.lt)
      have HS_6 := Lib.hid (sl_on HS_4.out hb)
      clear hb HC HB_4 HK_4 HS_4 x0 x1
      rcases hst with ⟨z, hz, rfl⟩ | ⟨hpb, hck, q2, ⟨e1, e2⟩, A3, c3, hsto, hsr, rfl, hsl, hqc3, hcm3⟩
      case inl =>
        simp only [digV, zD]
        have HB_7 : Hid (Below w.heap.size w (w6.alloc (.cells #[.int .u64 0, .int .u64 0] 30))) := HB_6.out.alloc HB_6.out.size _
        rcases hz with rfl | rfl | rfl
        all_goals
          go_wp2_with fail
          refine (awk.out _ HB_7.out).mono ?_
          rintro e wz ⟨rfl, hb⟩
          have HBZ := Lib.hid hb; clear hb
          go_wp2_with fail
          go_ret
          exact ⟨rfl, HBZ.out⟩
      case inr =>
        obtain ⟨hok2, hasc2⟩ := ck_ok hck (fun f hf => by
          rcases mem_withF.1 hf with ⟨h1, _⟩ | rfl
          · exact HOK.out.data f h1
          · show data.size ≤ _; omega)
        have HOK2 := Lib.hid hok2; have HASC2 := Lib.hid hasc2
        have HPL2 := Lib.hid hsr.ok; have HSUB := Lib.hid hsr.sub
        have HSTD2 := Lib.hid (sto_std 101 q _ q2 (e1, e2) hok2 HPL.out hsto).1
        have HSM2 : Hid (SmP q2) := sto_small 101 q _ q2 (e1, e2) hok2 HPL.out HSM.out (fun f hf => by
          rcases mem_withF.1 hf with ⟨h1, _⟩ | rfl
          · have := (HFS.out f h1).2; omega
          · show data.size ≤ _; omega) hsto
        have HLD2 := Lib.hid (std_load HPL2.out hok2 HSTD2.out hasc2)
        have hq27 : q2.length ≤ 60000 := by
          have h1 := hsr.len
          have h2 := wt_ok hok2
          omega
        obtain ⟨W7, hW7⟩ : ∃ W7, w6.alloc (.cells #[.int .u64 e1, .int .u64 e2] 30) = W7 := ⟨_, rfl⟩
        have hb : Below w6.heap.size w6 W7 := by rw [← hW7]; exact (Below.refl _ w6).alloc (Nat.le_refl _) _
        have HK2_7 : Hid (Bk W7 w6.heap.size 30 #[.int .u64 e1, .int .u64 e2]) := by rw [← hW7]; exact Bk.new w6 _ _
        have HSL := Lib.hid hsl
        have HS2_7 := Lib.hid (sl_on HSL.out hb)
        have HB_7 : Hid (Below w.heap.size w W7) := HB_6.out.trans (hb.mono HB_6.out.size)
        have HK_7 := Lib.hid (HK_6.out.below hb HK_6.out.lt)
        clear hck hsto hsr hsl hok2 hasc2 hb HSL HB_6 HK_6 HS_6
        have hgp : gtR q2 (e1, e2) path = (data, 0) := (std_gtR HPL2.out HOK2.out HSTD2.out hpb).1 data (mem_withF.2 (.inr rfl))
        have HC := Lib.hid (tget_any A3 q2.length c3 W7.heap.size q2 (e1, e2) path W7 HS2_7.out (Nat.le_refl _) (by omega) HPL2.out (by omega))
        unfold TgE at HC
        rw [hgp] at HC
        simp only [digV] at HC ⊢
        have HW7 := Lib.hid hW7
        obtain ⟨x0, x1, _, _⟩ := HK2_7.out.two
        rw [← hW7] at x0 x1
        have HPB := Lib.hid hpb
        clear hW7 hgp hpb
        go_wp2_with fail
        rw [HW7.out]
        refine HC.out.mono ?_
        rintro e w8 ⟨rfl, hb⟩
        have HB_8 : Hid (Below w.heap.size w w8) := HB_7.out.trans (hb.mono HB_7.out.size)
        have HK_8 := Lib.hid (HK_7.out.below hb HK_7.out.lt)
        have HK2_8 := Lib.hid (HK2_7.out.below hb HK2_7.out.lt)
        have HS2_8 := Lib.hid (sl_on HS2_7.out hb)
        clear HW7
        clear hb HC HB_7 HK_7 HK2_7 HS2_7 x0 x1
        obtain ⟨x0, x1, _, _⟩ := HK2_8.out.two
        have hdd : (data.toList == data.toList) = true := by simp
        have HC := Lib.hid (tget_any A3 q2.length c3 w8.heap.size q2 (e1, e2) other w8 HS2_8.out (Nat.le_refl _) (by omega) HPL2.out (by omega))
        unfold TgE at HC
        obtain ⟨⟨r1, z1⟩, hr1⟩ : ∃ g, gtR q2 (e1, e2) other = g := ⟨_, rfl⟩
        rw [hr1] at HC
        have HR1 := Lib.hid hr1
        simp only [digV] at HC
        clear hr1
        go_wp2_with fail
        refine HC.out.mono ?_
        rintro e w9 ⟨rfl, hb⟩
        have HB_9 : Hid (Below w.heap.size w w9) := HB_8.out.trans (hb.mono HB_8.out.size)
        have HK_9 := Lib.hid (HK_8.out.below hb HK_8.out.lt)
        have HK2_9 := Lib.hid (HK2_8.out.below hb HK2_8.out.lt)
        have HS2_9 := Lib.hid (sl_on HS2_8.out hb)
        clear hb HC HB_8 HK_8 HK2_8 HS2_8 x0 x1
        clear hdd
        obtain ⟨x0, x1, _, _⟩ := HK2_9.out.two
        have HC := Lib.hid (trem_any A3 q2.length c3 w9.heap.size q2 (e1, e2) path w9 HS2_9.out (Nat.le_refl _) hqc3 hcm3 (by omega) HPL2.out HSM2.out (by omega))
        simp only [digV] at HC
        by_cases hop : other = path
        · have hoo : (other.toList == path.toList) = true := by rw [hop]; simp
          clear hop
          go_wp2_with fail
          refine HC.out.mono ?_
          rintro e wA hst
          obtain ⟨hst, hb⟩ := rem_err HOK2.out HASC2.out HPB.out (by rw [(look9_some HOK2.out.nod).2 (mem_withF.2 (.inr rfl))]; rfl) HLD2.out hst
          have HB_A : Hid (Below w.heap.size w wA) := HB_9.out.trans (hb.mono HB_9.out.size)
          have HK_A := Lib.hid (HK_9.out.below hb HK_9.out.lt)
          clear hb HC x0 x1 HS2_9 HK2_9 HB_9 HK_9
          rcases hst with rfl | ⟨q3, ⟨g1, g2⟩, A4, c4, hsto, hsr, rfl, hsl, hqc4, hcm4⟩
          case inl =>
            simp only [digV, zD]
            have HB_B : Hid (Below w.heap.size w (wA.alloc (.cells #[.int .u64 0, .int .u64 0] 30))) := HB_A.out.alloc HB_A.out.size _
            go_wp2_with fail
            refine (awk.out _ HB_B.out).mono ?_
            rintro e wz ⟨rfl, hb⟩
            have HBZ := Lib.hid hb; clear hb
            go_wp2_with fail
            go_ret
            exact ⟨rfl, HBZ.out⟩
          case inr =>
            have HOK3 := Lib.hid (okL_wot HOK2.out path)
            have HPL3 := Lib.hid hsr.ok
            have HSTD3 := Lib.hid (sto_std 101 q2 _ q3 (g1, g2) HOK3.out HPL2.out hsto).1
            have HSTO3 := Lib.hid hsto
            have hq37 : q3.length ≤ 90000 := by
              have h1 := hsr.len
              have h2 := wt_ok HOK3.out
              omega
            obtain ⟨W8, hW8⟩ : ∃ W8, wA.alloc (.cells #[.int .u64 g1, .int .u64 g2] 30) = W8 := ⟨_, rfl⟩
            have hb : Below wA.heap.size wA W8 := by rw [← hW8]; exact (Below.refl _ wA).alloc (Nat.le_refl _) _
            have HK3_B : Hid (Bk W8 wA.heap.size 30 #[.int .u64 g1, .int .u64 g2]) := by rw [← hW8]; exact Bk.new wA _ _
            have HSL := Lib.hid hsl
            have HS3_B := Lib.hid (sl_on HSL.out hb)
            have HB_B : Hid (Below w.heap.size w W8) := HB_A.out.trans (hb.mono HB_A.out.size)
            have HK_B := Lib.hid (HK_A.out.below hb HK_A.out.lt)
            clear hsto hsr hsl hb HSL HB_A HK_A
            have hg8 := get_gone HPL3.out HOK2.out HSTD3.out HPB.out
            have HC := Lib.hid (tget_any A4 q3.length c4 W8.heap.size q3 (g1, g2) path W8 HS3_B.out (Nat.le_refl _) (by omega) HPL3.out (by omega))
            unfold TgE at HC
            obtain ⟨⟨r4, z4⟩, hr4⟩ : ∃ g, gtR q3 (g1, g2) path = g := ⟨_, rfl⟩
            rw [hr4] at HC hg8
            have hz4 : z4 = 8 := hg8
            subst hz4
            simp only [digV] at HC ⊢
            have HW8 := Lib.hid hW8
            obtain ⟨x0, x1, _, _⟩ := HK3_B.out.two
            obtain ⟨y0, y1, _, _⟩ := HK_B.out.two
            rw [← hW8] at x0 x1 y0 y1
            clear hW8 hg8 hr4
            have HD3 : Hid (mb = false → g1 = d1 ∧ g2 = d2) := fun hmb => by
              have h := back_same HOK.out HASC.out HSTD.out HPL.out HPL2.out HSUB.out (fun f hf e => by
                have h1 := HMB.out
                rw [hmb] at h1
                have h2 : memB (fs.map Prod.fst) path = true := (memB_iff _ _).2 (by rw [← e]; exact List.mem_map_of_mem hf)
                rw [h1] at h2; cases h2) HSTO3.out
              injection h with h1 h2
              exact ⟨h1, h2⟩
            cases mb
            case' false =>
              have hgd : (g1 == d1 && g2 == d2) = true := by
                obtain ⟨a, b⟩ := HD3.out rfl
                rw [a, b]; simp
            all_goals
              go_wp2_with fail
              rw [HW8.out]
              refine HC.out.mono ?_
              rintro e wC ⟨rfl, hb⟩
              have HB_C : Hid (Below w.heap.size w wC) := HB_B.out.trans (hb.mono HB_B.out.size)
              have HK3_C := Lib.hid (HK3_B.out.below hb HK3_B.out.lt)
              have HS3_C := Lib.hid (sl_on HS3_B.out hb)
              clear hb HC x0 x1 y0 y1 HS3_B HK3_B HB_B HK_B HW8
              obtain ⟨x0, x1, _, _⟩ := HK3_C.out.two
              have HC := Lib.hid (tget_any A4 q3.length c4 wC.heap.size q3 (g1, g2) other wC HS3_C.out (Nat.le_refl _) (by omega) HPL3.out (by omega))
              unfold TgE at HC
              obtain ⟨⟨r5, z5⟩, hr5⟩ : ∃ g, gtR q3 (g1, g2) other = g := ⟨_, rfl⟩
              rw [hr5] at HC
              have HR5 := Lib.hid hr5
              simp only [digV] at HC
              clear hr5
              go_wp2_with fail
              refine HC.out.mono ?_
              rintro e wD ⟨rfl, hb⟩
              have HB_D : Hid (Below w.heap.size w wD) := HB_C.out.trans (hb.mono HB_C.out.size)
              clear hb HC x0 x1 HS3_C HK3_C HB_C
              go_wp2_with fail
              refine (awk.out _ HB_D.out).mono ?_
              rintro e wz ⟨rfl, hb⟩
              have HBZ := Lib.hid hb; clear hb
              go_wp2_with fail
              go_ret
              exact ⟨rfl, HBZ.out⟩
        · have hoo : (other.toList == path.toList) = false := str_ne hop
          have HOP := Lib.hid hop
          clear hop
          by_cases he0 : e0 = 0
          · have h0' : (gtR q (d1, d2) other).2 = 0 := by rw [HR0.out]; exact he0
            have hsame := get_set HPL.out HOK.out HSTD.out HPL2.out HOK2.out HSTD2.out HOP.out h0'
            rw [HR1.out, HR0.out] at hsame
            injection hsame with hs1 hs2
            subst hs1; subst hs2
            subst he0
            have hrr : (r1.toList == r1.toList) = true := by simp
            go_wp2_with fail
            refine HC.out.mono ?_
            rintro e wA hst
            obtain ⟨hst, hb⟩ := rem_err HOK2.out HASC2.out HPB.out (by rw [(look9_some HOK2.out.nod).2 (mem_withF.2 (.inr rfl))]; rfl) HLD2.out hst
            have HB_A : Hid (Below w.heap.size w wA) := HB_9.out.trans (hb.mono HB_9.out.size)
            have HK_A := Lib.hid (HK_9.out.below hb HK_9.out.lt)
            clear hb HC x0 x1 HS2_9 HK2_9 HB_9 HK_9
            rcases hst with rfl | ⟨q3, ⟨g1, g2⟩, A4, c4, hsto, hsr, rfl, hsl, hqc4, hcm4⟩
            case inl =>
              simp only [digV, zD]
              have HB_B : Hid (Below w.heap.size w (wA.alloc (.cells #[.int .u64 0, .int .u64 0] 30))) := HB_A.out.alloc HB_A.out.size _
              go_wp2_with fail
              refine (awk.out _ HB_B.out).mono ?_
              rintro e wz ⟨rfl, hb⟩
              have HBZ := Lib.hid hb; clear hb
              go_wp2_with fail
              go_ret
              exact ⟨rfl, HBZ.out⟩
            case inr =>
              have HOK3 := Lib.hid (okL_wot HOK2.out path)
              have HPL3 := Lib.hid hsr.ok
              have HSTD3 := Lib.hid (sto_std 101 q2 _ q3 (g1, g2) HOK3.out HPL2.out hsto).1
              have HSTO3 := Lib.hid hsto
              have hq37 : q3.length ≤ 90000 := by
                have h1 := hsr.len
                have h2 := wt_ok HOK3.out
                omega
              obtain ⟨W8, hW8⟩ : ∃ W8, wA.alloc (.cells #[.int .u64 g1, .int .u64 g2] 30) = W8 := ⟨_, rfl⟩
              have hb : Below wA.heap.size wA W8 := by rw [← hW8]; exact (Below.refl _ wA).alloc (Nat.le_refl _) _
              have HK3_B : Hid (Bk W8 wA.heap.size 30 #[.int .u64 g1, .int .u64 g2]) := by rw [← hW8]; exact Bk.new wA _ _
              have HSL := Lib.hid hsl
              have HS3_B := Lib.hid (sl_on HSL.out hb)
              have HB_B : Hid (Below w.heap.size w W8) := HB_A.out.trans (hb.mono HB_A.out.size)
              have HK_B := Lib.hid (HK_A.out.below hb HK_A.out.lt)
              clear hsto hsr hsl hb HSL HB_A HK_A
              have hg8 := get_gone HPL3.out HOK2.out HSTD3.out HPB.out
              have HC := Lib.hid (tget_any A4 q3.length c4 W8.heap.size q3 (g1, g2) path W8 HS3_B.out (Nat.le_refl _) (by omega) HPL3.out (by omega))
              unfold TgE at HC
              obtain ⟨⟨r4, z4⟩, hr4⟩ : ∃ g, gtR q3 (g1, g2) path = g := ⟨_, rfl⟩
              rw [hr4] at HC hg8
              have hz4 : z4 = 8 := hg8
              subst hz4
              simp only [digV] at HC ⊢
              have HW8 := Lib.hid hW8
              obtain ⟨x0, x1, _, _⟩ := HK3_B.out.two
              obtain ⟨y0, y1, _, _⟩ := HK_B.out.two
              rw [← hW8] at x0 x1 y0 y1
              clear hW8 hg8 hr4
              have HD3 : Hid (mb = false → g1 = d1 ∧ g2 = d2) := fun hmb => by
                have h := back_same HOK.out HASC.out HSTD.out HPL.out HPL2.out HSUB.out (fun f hf e => by
                  have h1 := HMB.out
                  rw [hmb] at h1
                  have h2 : memB (fs.map Prod.fst) path = true := (memB_iff _ _).2 (by rw [← e]; exact List.mem_map_of_mem hf)
                  rw [h1] at h2; cases h2) HSTO3.out
                injection h with h1 h2
                exact ⟨h1, h2⟩
              cases mb
              case' false =>
                have hgd : (g1 == d1 && g2 == d2) = true := by
                  obtain ⟨a, b⟩ := HD3.out rfl
                  rw [a, b]; simp
              all_goals
                go_wp2_with fail
                rw [HW8.out]
                refine HC.out.mono ?_
                rintro e wC ⟨rfl, hb⟩
                have HB_C : Hid (Below w.heap.size w wC) := HB_B.out.trans (hb.mono HB_B.out.size)
                have HK3_C := Lib.hid (HK3_B.out.below hb HK3_B.out.lt)
                have HS3_C := Lib.hid (sl_on HS3_B.out hb)
                clear hb HC x0 x1 y0 y1 HS3_B HK3_B HB_B HK_B HW8
                obtain ⟨x0, x1, _, _⟩ := HK3_C.out.two
                have HC := Lib.hid (tget_any A4 q3.length c4 wC.heap.size q3 (g1, g2) other wC HS3_C.out (Nat.le_refl _) (by omega) HPL3.out (by omega))
                unfold TgE at HC
                obtain ⟨⟨r5, z5⟩, hr5⟩ : ∃ g, gtR q3 (g1, g2) other = g := ⟨_, rfl⟩
                rw [hr5] at HC
                have HR5 := Lib.hid hr5
                simp only [digV] at HC
                clear hr5
                go_wp2_with fail
                refine HC.out.mono ?_
                rintro e wD ⟨rfl, hb⟩
                have HB_D : Hid (Below w.heap.size w wD) := HB_C.out.trans (hb.mono HB_C.out.size)
                clear hb HC x0 x1 HS3_C HK3_C HB_C
                have h0'' : (gtR q (d1, d2) other).2 = 0 := h0'
                have hsame := get_rem HPL.out HOK.out HSTD.out HPL3.out HOK3.out HSTD3.out HOP.out h0''
                rw [HR5.out, HR0.out] at hsame
                injection hsame with hs1 hs2
                subst hs1; subst hs2
                clear h0''
                go_wp2_with fail
                refine (awk.out _ HB_D.out).mono ?_
                rintro e wz ⟨rfl, hb⟩
                have HBZ := Lib.hid hb; clear hb
                go_wp2_with fail
                go_ret
                exact ⟨rfl, HBZ.out⟩
          · have hee : (e0 == 0) = false := by rw [beq_eq_false_iff_ne]; exact he0
            have hen : (e0 != 0) = true := by rw [bne_iff_ne]; exact he0
            clear he0
            go_wp2_with fail
            refine HC.out.mono ?_
            rintro e wA hst
            obtain ⟨hst, hb⟩ := rem_err HOK2.out HASC2.out HPB.out (by rw [(look9_some HOK2.out.nod).2 (mem_withF.2 (.inr rfl))]; rfl) HLD2.out hst
            have HB_A : Hid (Below w.heap.size w wA) := HB_9.out.trans (hb.mono HB_9.out.size)
            have HK_A := Lib.hid (HK_9.out.below hb HK_9.out.lt)
            clear hb HC x0 x1 HS2_9 HK2_9 HB_9 HK_9
            rcases hst with rfl | ⟨q3, ⟨g1, g2⟩, A4, c4, hsto, hsr, rfl, hsl, hqc4, hcm4⟩
            case inl =>
              simp only [digV, zD]
              have HB_B : Hid (Below w.heap.size w (wA.alloc (.cells #[.int .u64 0, .int .u64 0] 30))) := HB_A.out.alloc HB_A.out.size _
              go_wp2_with fail
              refine (awk.out _ HB_B.out).mono ?_
              rintro e wz ⟨rfl, hb⟩
              have HBZ := Lib.hid hb; clear hb
              go_wp2_with fail
              go_ret
              exact ⟨rfl, HBZ.out⟩
            case inr =>
              have HOK3 := Lib.hid (okL_wot HOK2.out path)
              have HPL3 := Lib.hid hsr.ok
              have HSTD3 := Lib.hid (sto_std 101 q2 _ q3 (g1, g2) HOK3.out HPL2.out hsto).1
              have HSTO3 := Lib.hid hsto
              have hq37 : q3.length ≤ 90000 := by
                have h1 := hsr.len
                have h2 := wt_ok HOK3.out
                omega
              obtain ⟨W8, hW8⟩ : ∃ W8, wA.alloc (.cells #[.int .u64 g1, .int .u64 g2] 30) = W8 := ⟨_, rfl⟩
              have hb : Below wA.heap.size wA W8 := by rw [← hW8]; exact (Below.refl _ wA).alloc (Nat.le_refl _) _
              have HK3_B : Hid (Bk W8 wA.heap.size 30 #[.int .u64 g1, .int .u64 g2]) := by rw [← hW8]; exact Bk.new wA _ _
              have HSL := Lib.hid hsl
              have HS3_B := Lib.hid (sl_on HSL.out hb)
              have HB_B : Hid (Below w.heap.size w W8) := HB_A.out.trans (hb.mono HB_A.out.size)
              have HK_B := Lib.hid (HK_A.out.below hb HK_A.out.lt)
              clear hsto hsr hsl hb HSL HB_A HK_A
              have hg8 := get_gone HPL3.out HOK2.out HSTD3.out HPB.out
              have HC := Lib.hid (tget_any A4 q3.length c4 W8.heap.size q3 (g1, g2) path W8 HS3_B.out (Nat.le_refl _) (by omega) HPL3.out (by omega))
              unfold TgE at HC
              obtain ⟨⟨r4, z4⟩, hr4⟩ : ∃ g, gtR q3 (g1, g2) path = g := ⟨_, rfl⟩
              rw [hr4] at HC hg8
              have hz4 : z4 = 8 := hg8
              subst hz4
              simp only [digV] at HC ⊢
              have HW8 := Lib.hid hW8
              obtain ⟨x0, x1, _, _⟩ := HK3_B.out.two
              obtain ⟨y0, y1, _, _⟩ := HK_B.out.two
              rw [← hW8] at x0 x1 y0 y1
              clear hW8 hg8 hr4
              have HD3 : Hid (mb = false → g1 = d1 ∧ g2 = d2) := fun hmb => by
                have h := back_same HOK.out HASC.out HSTD.out HPL.out HPL2.out HSUB.out (fun f hf e => by
                  have h1 := HMB.out
                  rw [hmb] at h1
                  have h2 : memB (fs.map Prod.fst) path = true := (memB_iff _ _).2 (by rw [← e]; exact List.mem_map_of_mem hf)
                  rw [h1] at h2; cases h2) HSTO3.out
                injection h with h1 h2
                exact ⟨h1, h2⟩
              cases mb
              case' false =>
                have hgd : (g1 == d1 && g2 == d2) = true := by
                  obtain ⟨a, b⟩ := HD3.out rfl
                  rw [a, b]; simp
              all_goals
                go_wp2_with fail
                rw [HW8.out]
                refine HC.out.mono ?_
                rintro e wC ⟨rfl, hb⟩
                have HB_C : Hid (Below w.heap.size w wC) := HB_B.out.trans (hb.mono HB_B.out.size)
                have HK3_C := Lib.hid (HK3_B.out.below hb HK3_B.out.lt)
                have HS3_C := Lib.hid (sl_on HS3_B.out hb)
                clear hb HC x0 x1 y0 y1 HS3_B HK3_B HB_B HK_B HW8
                obtain ⟨x0, x1, _, _⟩ := HK3_C.out.two
                have HC := Lib.hid (tget_any A4 q3.length c4 wC.heap.size q3 (g1, g2) other wC HS3_C.out (Nat.le_refl _) (by omega) HPL3.out (by omega))
                unfold TgE at HC
                obtain ⟨⟨r5, z5⟩, hr5⟩ : ∃ g, gtR q3 (g1, g2) other = g := ⟨_, rfl⟩
                rw [hr5] at HC
                have HR5 := Lib.hid hr5
                simp only [digV] at HC
                clear hr5
                go_wp2_with fail
                refine HC.out.mono ?_
                rintro e wD ⟨rfl, hb⟩
                have HB_D : Hid (Below w.heap.size w wD) := HB_C.out.trans (hb.mono HB_C.out.size)
                clear hb HC x0 x1 HS3_C HK3_C HB_C
                go_wp2_with fail
                refine (awk.out _ HB_D.out).mono ?_
                rintro e wz ⟨rfl, hb⟩
                have HBZ := Lib.hid hb; clear hb
                go_wp2_with fail
                go_ret
                exact ⟨rfl, HBZ.out⟩
end Go.Proofs.YtmdhlkkekidknaaGreatDoor
