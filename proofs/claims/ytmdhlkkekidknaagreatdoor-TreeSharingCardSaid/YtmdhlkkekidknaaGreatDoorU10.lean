/-
  Lemmas: TreeSharing: the law.
-/
import Derived.Test.YtmdhlkkekidknaaGreatDoorU9

namespace Go.Proofs.YtmdhlkkekidknaaGreatDoor
open Go.RowKit

theorem edt_of {q : List Itm} {d : Dig} {fs : List Fl} {f : List Fl → Int × List Fl} {w w' : World} {e : Ending} (hld : LdSeq q d fs) (h : EdtE q d f w e w') :
    (((∃ z : Int, z ≠ 0 ∧ e = .returned (.tuple #[.slice none 0 0, digV zD, .int .i64 z])) ∨ ((f fs).1 = 0 ∧ TckR (f fs).2 0 ∧ ∃ q2 d2 A c, sto 101 q (f fs).2 = some (q2, d2) ∧ StoR q q2 d2 (f fs).2 ∧ e = .returned (.tuple #[.slice A q2.length c, digV d2, .int .i64 0]) ∧ Sl w' w'.heap.size 3 A q2.length (flat itC q2) ∧ q2.length ≤ c ∧ c ≤ maxLen))) ∧ Below w.heap.size w w' := by
  obtain ⟨h, hb⟩ := h
  refine ⟨?_, hb⟩
  rcases h with ⟨err, h1, _⟩ | ⟨fs', h1, h2⟩
  · exact (ld_not hld h1).elim
  · have := ld_uniq h1 hld
    subst this
    rcases h2 with ⟨h3, rfl⟩ | ⟨h3, ⟨z, h4, h5, rfl⟩ | ⟨h4, ⟨q2, d2, A, c, h5, h6, rfl, h7, h8, h9⟩ | ⟨h5, rfl⟩⟩⟩
    · exact .inl ⟨_, h3, rfl⟩
    · exact .inl ⟨_, h5, rfl⟩
    · exact .inr ⟨h3, h4, q2, d2, A, c, h5, h6, rfl, h7, h8, h9⟩
    · exact .inl ⟨16, by decide, rfl⟩
theorem str_of {p : List Itm} {l : List Fl} {w w' : World} {e : Ending} (hd : ∀ f ∈ l, f.2.size ≤ 60000) (h : StrE p l w e w') :
    ((∃ z : Int, z ≠ 0 ∧ e = .returned (.tuple #[.slice none 0 0, digV zD, .int .i64 z])) ∨ (OkL l ∧ AscF l ∧ ∃ q d A c, sto 101 p l = some (q, d) ∧ StoR p q d l ∧ e = .returned (.tuple #[.slice A q.length c, digV d, .int .i64 0]) ∧ Sl w' w'.heap.size 3 A q.length (flat itC q) ∧ q.length ≤ c ∧ c ≤ maxLen)) ∧ Below w.heap.size w w' := by
  obtain ⟨h, hb⟩ := h
  refine ⟨?_, hb⟩
  rcases h with ⟨z, _, hn, rfl⟩ | ⟨h0, ⟨q, d, A, c, h1, h2, rfl, h3, h4, h5⟩ | ⟨h1, rfl⟩⟩
  · exact .inl ⟨z, hn, rfl⟩
  · obtain ⟨a, b⟩ := ck_ok h0 hd
    exact .inr ⟨a, b, q, d, A, c, h1, h2, rfl, h3, h4, h5⟩
  · exact .inl ⟨16, by decide, rfl⟩
set_option maxRecDepth 100000 in
set_option maxHeartbeats 16000000 in
theorem lawSha_any (A : Option Addr) (n c : Nat) (fs : List Fl) (path data : ByteArray) (w : World) (h0 : Sl w w.heap.size 2 A n (flat flC fs)) (hn : n ≤ maxLen) (hs : ∀ f ∈ fs, f.1.size ≤ maxLen ∧ f.2.size ≤ maxLen) (hp : path.size ≤ maxLen) (hd : data.size ≤ maxLen) :
    Calls Tryz.prog 4 #[.slice A n c, .string path, .string data] w (LawE w) := by
  have H0 := Lib.hid h0
  have HG := Lib.hid (great9_any A n c w.heap.size fs w h0 hn hs)
  unfold Gr9End at HG
  have hp' : path.size ≤ 9223372036854775807 := by unfold maxLen at hp; exact hp
  have hd' : data.size ≤ 9223372036854775807 := by unfold maxLen at hd; exact hd
  have HAW := Lib.hid awake_any
  unfold LawE at HAW ⊢
  clear h0 hs hp hd
  have awk : Hid (∀ W, Below w.heap.size w W → Calls Tryz.prog 14 #[] W fun e w' => e = .returned (.bool true) ∧ Below w.heap.size w w') := fun W hW => (HAW.out W).mono fun e w' ⟨h1, h2⟩ => ⟨h1, hW.trans (h2.mono hW.size)⟩
  go_enter Tryz.func4, Tryz.ntmps4
  go_wp2_with fail
  refine HG.out.mono ?_
  rintro e w1 ⟨r, rfl, hr, rfl⟩
  have HR := Lib.hid hr
  clear hr HG
  cases r with
  | true =>
    go_wp2_with fail
    refine (awk.out _ (Below.refl _ _)).mono ?_
    rintro e w2 ⟨rfl, hb⟩
    have HB := Lib.hid hb; clear hb
    go_wp2_with fail
    go_ret
    exact ⟨rfl, HB.out⟩
  | false =>
    by_cases c1 : (200 : Int) < (path.size : Int)
    · go_wp2_with fail
      refine (awk.out _ (Below.refl _ _)).mono ?_
      rintro e w2 ⟨rfl, hb⟩
      have HB := Lib.hid hb; clear hb
      go_wp2_with fail
      go_ret
      exact ⟨rfl, HB.out⟩
    by_cases c2 : (200 : Int) < (data.size : Int)
    · go_wp2_with fail
      refine (awk.out _ (Below.refl _ _)).mono ?_
      rintro e w2 ⟨rfl, hb⟩
      have HB := Lib.hid hb; clear hb
      go_wp2_with fail
      go_ret
      exact ⟨rfl, HB.out⟩
    obtain ⟨hn10, hfs⟩ := HR.out rfl
    have HFS := Lib.hid hfs
    have hp2 : path.size ≤ 200 := by omega
    have hd2 : data.size ≤ 200 := by omega
    have HST := Lib.hid (tstore_any none 0 0 w.heap.size [] A n c fs w ⟨rfl, fun h => absurd h (Nat.lt_irrefl 0)⟩ H0.out (Nat.le_refl _) (Nat.le_refl _) (Nat.zero_le _) (Nat.zero_le _) (by omega) PlOk.nil (fun f hf => ⟨by have := (HFS.out f hf).1; omega, by have := (HFS.out f hf).2; omega⟩))
    clear hfs
    go_wp2_with fail
    refine HST.out.mono ?_
    rintro e w2 hst
    obtain ⟨hst, hb⟩ := str_of (fun f hf => by have := (HFS.out f hf).2; omega) hst
    have HB2 := Lib.hid hb
    clear hb HST
    rcases hst with ⟨z, hz, rfl⟩ | ⟨hok, hasc, q, ⟨d1, d2⟩, A2, c2, hsto, hsr, rfl, hsl, hqc, hcm⟩
    case inl =>
      have t1 : (z != 0) = true := by rw [bne_iff_ne]; exact hz
      clear hz
      simp only [digV, zD]
      have HA := Lib.hid (awk.out (w2.alloc (.cells #[.int .u64 0, .int .u64 0] 30)) (HB2.out.alloc HB2.out.size _))
      go_wp2_with fail
      refine HA.out.mono ?_
      rintro e w3 ⟨rfl, hb⟩
      have HB := Lib.hid hb; clear hb
      go_wp2_with fail
      go_ret
      exact ⟨rfl, HB.out⟩
    case inr =>
      have HOK := Lib.hid hok; have HASC := Lib.hid hasc; have HSTO := Lib.hid hsto; have HSR := Lib.hid hsr; have HSL := Lib.hid hsl
      obtain ⟨hstd, hpl, _⟩ := sto_std 101 [] fs q (d1, d2) hok PlOk.nil hsto
      have HSTD := Lib.hid hstd; have HPL := Lib.hid hpl
      have HSM : Hid (SmP q) := sto_small 101 [] fs q (d1, d2) hok PlOk.nil (fun i hi => by cases hi) (fun f hf => by have := (HFS.out f hf).2; omega) hsto
      have HLD := Lib.hid (std_load hpl hok hstd hasc)
      have hq7 : q.length ≤ 700000 := by
        have h1 := hsr.len
        have h2 := wt_ok hok
        simp only [List.length_nil] at h1
        omega
      clear hok hasc hsto hsr hsl hstd hpl
      obtain ⟨W3, hW3⟩ : ∃ W3, w2.alloc (.cells #[.int .u64 d1, .int .u64 d2] 30) = W3 := ⟨_, rfl⟩
      have hb3 : Below w2.heap.size w2 W3 := by rw [← hW3]; exact (Below.refl _ w2).alloc (Nat.le_refl _) _
      have HB3 : Hid (Below w.heap.size w W3) := HB2.out.trans (hb3.mono HB2.out.size)
      have HK3 : Hid (Bk W3 w2.heap.size 30 #[.int .u64 d1, .int .u64 d2]) := by rw [← hW3]; exact Bk.new w2 _ _
      have HS3 := Lib.hid (sl_on HSL.out hb3)
      have HC := Lib.hid (tset_any A2 q.length c2 W3.heap.size q (d1, d2) path data W3 HS3.out (Nat.le_refl _) hqc hcm hq7 HPL.out HSM.out (by omega) (by omega))
      simp only [digV] at HC ⊢
      have HW3 := Lib.hid hW3
      obtain ⟨x0, x1, _, _⟩ := HK3.out.two
      rw [← hW3] at x0 x1
      clear hb3 hW3 HSL HB2 HK3
      go_wp2_with fail
      rw [HW3.out]
      refine HC.out.mono ?_
      rintro e w4 hst
      obtain ⟨hst, hb⟩ := edt_of HLD.out hst
      have HB4 : Hid (Below w.heap.size w w4) := HB3.out.trans (hb.mono HB3.out.size)
      have HS4 := Lib.hid (sl_on HS3.out hb)
      clear hb HC HW3 x0 x1 HS3 HB3
      rcases hst with ⟨z, hz, rfl⟩ | ⟨hz0, hck, q2, ⟨e1, e2⟩, A3, c3, hsto, hsr, rfl, hsl, hqc3, hcm3⟩
      case inl =>
        have t1 : (z != 0) = true := by rw [bne_iff_ne]; exact hz
        clear hz
        simp only [digV, zD]
        have HA := Lib.hid (awk.out (w4.alloc (.cells #[.int .u64 0, .int .u64 0] 30)) (HB4.out.alloc HB4.out.size _))
        go_wp2_with fail
        refine HA.out.mono ?_
        rintro e w5 ⟨rfl, hb⟩
        have HB := Lib.hid hb; clear hb
        go_wp2_with fail
        go_ret
        exact ⟨rfl, HB.out⟩
      case inr =>
        have hpb : pathB path = true := by
          unfold setF at hz0
          split at hz0
          · assumption
          · cases hz0
        have hset : setF path data fs = (0, withF fs (path, data)) := by unfold setF; rw [if_pos hpb]
        rw [hset] at hck hsto hsr
        simp only at hck hsto hsr
        obtain ⟨hok2, _⟩ := ck_ok hck (fun f hf => by
          rcases mem_withF.1 hf with ⟨h1, _⟩ | rfl
          · exact HOK.out.data f h1
          · show data.size ≤ _; omega)
        have HPL2 := Lib.hid hsr.ok
        have HSUB := Lib.hid hsr.sub
        have HSH := Lib.hid (share 101 fs (withF fs (path, data)) (path, data) q (d1, d2) q2 (e1, e2) HOK.out hok2 (chd_with fs (path, data)) HPL.out (fun _ => HSTD.out) hsto)
        have HS5 := Lib.hid hsl
        have hq2 : q2.length ≤ 1000000 := by
          have h1 := hsr.len
          have h2 := wt_ok hok2
          omega
        clear hz0 hck hsto hsr hsl hset hok2
        simp only [digV]
        obtain ⟨W5, hW5⟩ : ∃ W5, w4.alloc (.cells #[.int .u64 e1, .int .u64 e2] 30) = W5 := ⟨_, rfl⟩
        have hb5 : Below w4.heap.size w4 W5 := by rw [← hW5]; exact (Below.refl _ w4).alloc (Nat.le_refl _) _
        have HB5 : Hid (Below w.heap.size w W5) := HB4.out.trans (hb5.mono HB4.out.size)
        have HQ1 := Lib.hid (sl_on HS4.out hb5)
        have HQ2 := Lib.hid (sl_on HS5.out hb5)
        have HL1 := Lib.hid (HQ1.out.len itC_len (by omega)); have HL2 := Lib.hid (HQ2.out.len itC_len (by omega))
        clear hb5 HS4 HS5 HB4
        go_wp2_with fail
        clear hW5
        go_loopw [58] (fun i wr => ∃ j : Nat, j ≤ q.length ∧ i = .int .i64 (j : Int) ∧ Hid (Below W5.heap.size W5 wr)) (fun i _ => q.length - (intOf i).toNat)
        case atStart => exact ⟨0, Nat.zero_le _, rfl, Below.refl _ _⟩
        case round =>
          obtain ⟨j, hj, rfl, hBel⟩ := hrel
          by_cases hlt : j < q.length
          · have hlz : (j : Int) < (q.length : Int) := by omega
            obtain ⟨bb, off, x, rfl, hbB, hx, y0, y1, y2⟩ := (HQ1.out.below hBel.out (Nat.le_refl _)).it hlt
            have hfd : (findP q2 x.1).isSome = true := by
              have h1 : (x.1, x.2) ∈ q2 := HSUB.out x (List.mem_of_getElem? hx)
              rw [(findP_some HPL2.out.asc).2 h1]; rfl
            clear hx
            obtain ⟨⟨x1, x2⟩, xs⟩ := x
            simp only at y0 y1 y2
            obtain ⟨W6, hW6⟩ : ∃ W6, wr.alloc (.cells #[.int .u64 x1, .int .u64 x2, .string xs] 38) = W6 := ⟨_, rfl⟩
            have hb6 : Below wr.heap.size wr W6 := by rw [← hW6]; exact (Below.refl _ wr).alloc (Nat.le_refl _) _
            have HB6 : Hid (Below W5.heap.size W5 W6) := hBel.out.trans (hb6.mono hBel.out.size)
            have HC := Lib.hid (phas_any A3 q2.length c3 W5.heap.size q2 (x1, x2) W6 (HQ2.out.below HB6.out (Nat.le_refl _)) HB6.out.size hq2 HPL2.out.asc)
            rw [hfd] at HC
            simp only [digV] at HC
            have HW6 := Lib.hid hW6
            clear hW6 hb6 hfd hBel
            go_wp2_with fail
            rw [HW6.out]
            refine HC.out.mono ?_
            rintro e w7 ⟨rfl, hb⟩
            have HB7 : Hid (Below W5.heap.size W5 w7) := HB6.out.trans (hb.mono HB6.out.size)
            clear hb HC HB6 HW6 y0 y1 y2
            go_wp2_with fail
            go_roundw
            case rel => exact ⟨j + 1, hlt, by go_num, HB7.out⟩
            case measure => simp [intOf]; omega
          · have hlz : ¬ (j : Int) < (q.length : Int) := by omega
            obtain ⟨wo, hwo⟩ : ∃ wo, wo = wr := ⟨_, rfl⟩
            subst hwo
            have HBo := Lib.hid hBel.out
            clear hBel
            go_wp2_with fail
            go_loopw [70] (fun i wr => ∃ j : Nat, j ≤ q2.length ∧ i = .int .i64 (j : Int) ∧ Hid (Below W5.heap.size W5 wr)) (fun i _ => q2.length - (intOf i).toNat)
            case atStart => exact ⟨0, Nat.zero_le _, rfl, HBo.out⟩
            case round =>
              obtain ⟨j, hj, rfl, hBel⟩ := hrel
              by_cases hlt : j < q2.length
              · have hlz : (j : Int) < (q2.length : Int) := by omega
                obtain ⟨bb, off, x, rfl, hbB, hx, y0, y1, y2⟩ := (HQ2.out.below hBel.out (Nat.le_refl _)).it hlt
                have hdg := HPL2.out.dg x (List.mem_of_getElem? hx)
                have hxs : x.2.size ≤ maxLen := by
                  obtain ⟨o, ho, e⟩ := HPL2.out.enc x (List.mem_of_getElem? hx)
                  have := ho.len
                  rw [e, size_toL, toL_ofL]; unfold maxLen; omega
                clear hx
                obtain ⟨⟨x1, x2⟩, xs⟩ := x
                simp only at y0 y1 y2 hdg hxs
                have HOF : Hid (∀ W, Calls Tryz.prog 20 #[.string xs] W fun e w' => e = .returned (.agg #[.int .u64 x1, .int .u64 x2]) ∧ Below W.heap.size W w') := fun W => by
                  have h := rof_any xs W hxs
                  unfold OfEnd at h
                  rw [← hdg] at h
                  exact h
                clear hdg hxs
                have hxx : (x1 == x1 && x2 == x2) = true := by simp
                obtain ⟨W6, hW6⟩ : ∃ W6, wr.alloc (.cells #[.int .u64 x1, .int .u64 x2, .string xs] 38) = W6 := ⟨_, rfl⟩
                have HB6 : Hid (Below W5.heap.size W5 W6) := by rw [← hW6]; exact hBel.out.alloc hBel.out.size _
                have HK6 : Hid (Bk W6 wr.heap.size 38 #[.int .u64 x1, .int .u64 x2, .string xs]) := by rw [← hW6]; exact Bk.new wr _ _
                have zk := HK6.out.lt
                obtain ⟨k0, k1, k2⟩ := HK6.out.three
                have HBE := Lib.hid hBel.out
                clear hBel
                go_wp2_with fail
                clear y0 y1 y2 hW6
                go_region_held3 (fun w' => w'.cell? ⟨wr.heap.size, 0, none⟩ = some (.int .u64 x1) ∧ w'.cell? ⟨wr.heap.size, 1, none⟩ = some (.int .u64 x2) ∧ w'.cell? ⟨wr.heap.size, 2, none⟩ = some (.string xs))
                  (first | exact ⟨k0, k1, k2⟩ | exact ⟨m0.out, m1.out, m2.out⟩)
                  (first
                    | (go_at_call 20; refine (HOF.out _).mono ?_; rintro e w7 ⟨rfl, hb2⟩
                       have m0 := Lib.hid ((hb2.cell (p := ⟨wr.heap.size, 0, none⟩) (by show wr.heap.size < _; simp; omega)).trans k0); have m1 := Lib.hid ((hb2.cell (p := ⟨wr.heap.size, 1, none⟩) (by show wr.heap.size < _; simp; omega)).trans k1); have m2 := Lib.hid ((hb2.cell (p := ⟨wr.heap.size, 2, none⟩) (by show wr.heap.size < _; simp; omega)).trans k2)
                       have hR : Hid (Below W6.heap.size W6 w7) := (Below.refl _ W6).drew.trans hb2
                       clear hb2))
                have HB8 : Hid (Below W5.heap.size W5 w7) := HB6.out.trans (hR.out.mono HB6.out.size)
                clear HBE HB6 HK6 hR k0 k1 k2
                go_wp2_with fail
                go_roundw
                case rel => exact ⟨j + 1, hlt, by go_num, HB8.out⟩
                case measure => simp [intOf]; omega
              · have hlz : ¬ (j : Int) < (q2.length : Int) := by omega
                obtain ⟨wp, hwp⟩ : ∃ wp, wp = wr := ⟨_, rfl⟩
                subst hwp
                have HBp : Hid (Below w.heap.size w wp) := HB5.out.trans (hBel.out.mono HB5.out.size)
                have HCT := Lib.hid (Tryz.strings_Count_one path 47 wp)
                have hct : Lib.countByte path.data.toList 47 = slaN path := rfl
                rw [hct] at HCT
                have hsh : q2.length ≤ q.length + 2 + slaN path := HSH.out
                have hs200 : slaN path ≤ 200 := by
                  have h1 : slaN path ≤ (bl path).length := List.count_le_length
                  have h2 : (bl path).length = path.size := by simp [bl]
                  omega
                have HA := Lib.hid (awk.out wp HBp.out)
                clear hBel hct
                have hw1 : IntKind.i64.wrap ((q.length : Int) + 2) = (q.length : Int) + 2 := by rw [IntKind.wrap_i64]; omega
                have hw2 : IntKind.i64.wrap ((q.length : Int) + 2 + (slaN path : Nat)) = (q.length : Int) + 2 + (slaN path : Nat) := by rw [IntKind.wrap_i64]; omega
                have hle : (q2.length : Int) ≤ (q.length : Int) + 2 + (slaN path : Nat) := by omega
                go_wp2_with fail
                refine HCT.out.mono ?_
                rintro e w8 ⟨rfl, rfl⟩
                clear HCT
                go_wp2_with fail
                refine HA.out.mono ?_
                rintro e w9 ⟨rfl, hb⟩
                have HB := Lib.hid hb; clear hb
                go_wp2_with fail
                go_ret
                exact ⟨rfl, HB.out⟩
end Go.Proofs.YtmdhlkkekidknaaGreatDoor
