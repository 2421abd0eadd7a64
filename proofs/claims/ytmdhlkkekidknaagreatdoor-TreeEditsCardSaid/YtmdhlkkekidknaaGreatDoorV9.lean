/-
  Lemmas: The reference's Decode of objects, exact. The reference's Get and Put on pools. tree.Check. The reference's Path and Below.
-/
import Derived.Deep.RegionHeld3
import Derived.Deep.QuietTactic
import Derived.BigQuiet
import Derived.Test.YtmdhlkkekidknaaGreatDoorV8
import Derived.Test.YtmdhlkkekidknaaGreatDoorV7
import Derived.Test.YtmdhlkkekidknaaGreatDoorV6
import Derived.Test.YtmdhlkkekidknaaGreatDoorV4
import Derived.Test.YtmdhlkkekidknaaGreatDoorV5
import Derived.Test.YtmdhlkkekidknaaGreatDoorV1
import Derived.Test.YtmdhlkkekidknaaGreatDoorV3

namespace Go.Proofs.YtmdhlkkekidknaaGreatDoor
open Go.RowKit

structure DeSt (w W : World) (x : Array Value) (r : Bytes) (bad : Bool) : Prop where
  z : Bk W w.heap.size 82 #[.int .i64 0, .string ⟨#[]⟩, .slice none 0 0, .int .u64 0, .int .u64 0, .slice none 0 0, .string ⟨#[]⟩, .int .i64 0, .string ⟨#[]⟩]
  r : Bk W (w.heap.size + 1) 152 #[.string (ofL r), .bool bad]
  o : Bk W (w.heap.size + 1 + 1) 82 x
  b : Below w.heap.size w W
theorem DeSt.lt {w W : World} {x : Array Value} {r : Bytes} {bad : Bool} (h : DeSt w W x r bad) : w.heap.size + 3 ≤ W.heap.size := by have := h.o.lt; omega
theorem DeSt.read {w W W' : World} {x : Array Value} {r r' : Bytes} {bad bad' : Bool} (h : DeSt w W x r bad) (hr : Bk W' (w.heap.size + 1) 152 #[.string (ofL r'), .bool bad']) (hg : Gb (fun g => g = w.heap.size + 1) W W') : DeSt w W' x r' bad' :=
  ⟨hg.bk h.z (by show ¬ w.heap.size = w.heap.size + 1; omega), hr, hg.bk h.o (by show ¬ w.heap.size + 1 + 1 = w.heap.size + 1; omega), h.b.trans (hg.below h.b.size (fun q hq e => by omega))⟩
theorem DeSt.set {w W : World} {x : Array Value} {r : Bytes} {bad : Bool} (h : DeSt w W x r bad) (k : Nat) (v : Value) : DeSt w (W.setCell ⟨w.heap.size + 1 + 1, k, none⟩ v) (x.setIfInBounds k v) r bad :=
  ⟨h.z.far (p := ⟨w.heap.size + 1 + 1, k, none⟩) (by show w.heap.size ≠ w.heap.size + 1 + 1; omega) _, h.r.far (p := ⟨w.heap.size + 1 + 1, k, none⟩) (by show w.heap.size + 1 ≠ w.heap.size + 1 + 1; omega) _, h.o.set k v, Below.setCell h.b (p := ⟨w.heap.size + 1 + 1, k, none⟩) (by show w.heap.size ≤ w.heap.size + 1 + 1; omega) _⟩
theorem DeSt.below {w W W' : World} {x : Array Value} {r : Bytes} {bad : Bool} (h : DeSt w W x r bad) (hb : Below (w.heap.size + 3) W W') : DeSt w W' x r bad :=
  ⟨h.z.below hb (by omega), h.r.below hb (by omega), h.o.below hb (by omega), h.b.trans (hb.mono (by omega))⟩
def DecE (s : ByteArray) (w : World) (e : Ending) (w' : World) : Prop :=
  ((∃ o sl, OkO o ∧ s = ofL (encO o) ∧ e = .returned (.tuple #[obV o sl, .int .i64 0]) ∧ ObM w' w'.heap.size o sl) ∨ ((∀ o, OkO o → s ≠ ofL (encO o)) ∧ e = .returned (.tuple #[.agg #[.int .i64 0, .string ⟨#[]⟩, .slice none 0 0, .int .u64 0, .int .u64 0, .slice none 0 0, .string ⟨#[]⟩, .int .i64 0, .string ⟨#[]⟩], .int .i64 13]))) ∧ Below w.heap.size w w'
theorem decE_bad {s : ByteArray} {o : Ob} {r : Bytes} (hp : pz7 (toL s) = (o, r, true)) : ∀ o', OkO o' → s ≠ ofL (encO o') := fun o' ho e => by
  rw [e, toL_ofL, pz7_enc ho] at hp; cases hp
theorem decE_not {s : ByteArray} {o : Ob} {st : St} (hp : pz7 (toL s) = (o, st)) (hn : ¬ (OkO o ∧ ofL (encO o) = s)) : ∀ o', OkO o' → s ≠ ofL (encO o') := fun o' ho e => by
  have := hp
  rw [e, toL_ofL, pz7_enc ho] at this; cases this; exact hn ⟨ho, e.symm⟩
theorem pz7_two {s r2 : Bytes} {bad2 : Bool} (h : rn (s, false) = (2, r2, bad2)) : pz7 s = (⟨2, ⟨#[]⟩, (rE (rn (r2, bad2)).1 (rn (r2, bad2)).2).1, zD, [], ⟨#[]⟩, 0, ⟨#[]⟩⟩, (rE (rn (r2, bad2)).1 (rn (r2, bad2)).2).2) := by
  unfold pz7; simp only [h]; rfl
theorem pz7_three {s r2 : Bytes} {bad2 : Bool} (h : rn (s, false) = (3, r2, bad2)) : pz7 s = (let t := rg (r2, bad2); let n := rn t.2; let q := rD n.1 n.2; let a := rt q.2; let i := rn a.2; let m := rt i.2
    (⟨3, ⟨#[]⟩, [], t.1, q.1, ofL a.1, (i.1 : Int), ofL m.1⟩, m.2)) := by
  unfold pz7; simp only [h]; rfl
theorem pz7_other {s r2 : Bytes} {k : Nat} {bad2 : Bool} (h : rn (s, false) = (k, r2, bad2)) (h2 : k ≠ 2) (h3 : k ≠ 3) : pz7 s = (⟨(k : Int), ofL (rt (r2, bad2)).1, [], zD, [], ⟨#[]⟩, 0, ⟨#[]⟩⟩, (rt (r2, bad2)).2) := by
  unfold pz7; simp only [h, if_neg h2, if_neg h3]
theorem rE_step {n j : Nat} {st0 : St} {es : List Ent} {r t r1 r2 r3 : Bytes} {x : Nat} {d : Dig} {b1 b2 b3 : Bool} (h : rE n st0 = (es ++ (rE (n - j) (r, false)).1, (rE (n - j) (r, false)).2)) (hj : j < n)
    (h1 : rt (r, false) = (t, r1, b1)) (h2 : rn (r1, b1) = (x, r2, b2)) (h3 : rg (r2, b2) = (d, r3, b3)) :
    rE n st0 = ((es ++ [⟨ofL t, decide (x = 1), d⟩]) ++ (rE (n - (j + 1)) (r3, b3)).1, (rE (n - (j + 1)) (r3, b3)).2) := by
  rw [show n - j = n - (j + 1) + 1 by omega, rE, if_neg (by simp), h1] at h
  simp only at h
  rw [h2] at h
  simp only at h
  rw [h3] at h
  rw [h]; simp
theorem rD_step {n j : Nat} {st0 : St} {es : List Dig} {r r3 : Bytes} {d : Dig} {b3 : Bool} (h : rD n st0 = (es ++ (rD (n - j) (r, false)).1, (rD (n - j) (r, false)).2)) (hj : j < n)
    (h3 : rg (r, false) = (d, r3, b3)) :
    rD n st0 = ((es ++ [d]) ++ (rD (n - (j + 1)) (r3, b3)).1, (rD (n - (j + 1)) (r3, b3)).2) := by
  rw [show n - j = n - (j + 1) + 1 by omega, rD, if_neg (by simp), h3] at h
  rw [h]; simp
theorem rE_end {n j : Nat} {st0 : St} {es : List Ent} {r : Bytes} {b : Bool} (h : rE n st0 = (es ++ (rE (n - j) (r, b)).1, (rE (n - j) (r, b)).2)) (hj : n ≤ j ∨ b = true) : rE n st0 = (es, r, b) := by
  have e : rE (n - j) (r, b) = ([], r, b) := by
    rcases hj with hj | hj
    · rw [show n - j = 0 by omega]; rfl
    · subst hj
      cases n - j with
      | zero => rfl
      | succ m => rw [rE, if_pos rfl]
  rw [h, e, List.append_nil]
theorem rD_end {n j : Nat} {st0 : St} {es : List Dig} {r : Bytes} {b : Bool} (h : rD n st0 = (es ++ (rD (n - j) (r, b)).1, (rD (n - j) (r, b)).2)) (hj : n ≤ j ∨ b = true) : rD n st0 = (es, r, b) := by
  have e : rD (n - j) (r, b) = ([], r, b) := by
    rcases hj with hj | hj
    · rw [show n - j = 0 by omega]; rfl
    · subst hj
      cases n - j with
      | zero => rfl
      | succ m => rw [rD, if_pos rfl]
  rw [h, e, List.append_nil]
theorem rg_adv {st : St} (h : (rg st).2.2 = false) : (rg st).2.1.length + 16 ≤ st.1.length := by
  unfold rg at h ⊢
  split at h
  · cases h
  · rename_i hn
    rw [if_neg hn]
    simp at hn ⊢
    omega
def Far (j : Nat) (r : Bytes) (bad : Bool) (k : Nat) : Prop := bad = false → j + r.length ≤ k
theorem Far.step {j k : Nat} {r r' : Bytes} {b b' : Bool} {st : St} {d : Dig} (h : Far j r b k) (hb : b = false) (h3 : rg st = (d, r', b')) (hl : st.1.length ≤ r.length) : Far (j + 1) r' b' k := fun e => by
  have := @rg_adv st (by rw [h3]; exact e)
  rw [h3] at this
  have := h hb
  simp only at *
  omega
set_option maxRecDepth 100000 in
set_option maxHeartbeats 8000000 in
theorem decode7_any (s : ByteArray) (w : World) (hs : s.size ≤ 1000000) : Calls Tryz.prog 85 #[.string s] w (DecE s w) := by
  have HS := Lib.hid hs
  have hsl : (toL s).length ≤ 1000000 := by rw [← size_toL]; exact hs
  have HLN : Hid (∀ r : Bytes, r.length ≤ (toL s).length → r.length ≤ 1000000) := fun r h => by omega
  obtain ⟨W1, hW1⟩ : ∃ W, ((w.alloc (.cells #[.int .i64 0, .string ⟨#[]⟩, .slice none 0 0, .int .u64 0, .int .u64 0, .slice none 0 0, .string ⟨#[]⟩, .int .i64 0, .string ⟨#[]⟩] 82)).alloc (.cells #[.string s, .bool false] 152)).alloc (.cells #[.int .i64 0, .string ⟨#[]⟩, .slice none 0 0, .int .u64 0, .int .u64 0, .slice none 0 0, .string ⟨#[]⟩, .int .i64 0, .string ⟨#[]⟩] 82) = W := ⟨_, rfl⟩
  have HD1 : Hid (DeSt w W1 #[.int .i64 0, .string ⟨#[]⟩, .slice none 0 0, .int .u64 0, .int .u64 0, .slice none 0 0, .string ⟨#[]⟩, .int .i64 0, .string ⟨#[]⟩] (toL s) false) := by
    rw [← hW1]
    refine ⟨((Bk.new w _ _).alloc _).alloc _, ?_, ?_, (((Below.refl _ w).alloc (Nat.le_refl _) _).alloc (by simp) _).alloc (by simp; omega) _⟩
    · have := (Bk.new (w.alloc (.cells #[.int .i64 0, .string ⟨#[]⟩, .slice none 0 0, .int .u64 0, .int .u64 0, .slice none 0 0, .string ⟨#[]⟩, .int .i64 0, .string ⟨#[]⟩] 82)) 152 #[.string s, .bool false]).alloc (.cells #[.int .i64 0, .string ⟨#[]⟩, .slice none 0 0, .int .u64 0, .int .u64 0, .slice none 0 0, .string ⟨#[]⟩, .int .i64 0, .string ⟨#[]⟩] 82)
      rw [World.size_alloc] at this; exact this
    · have := Bk.new ((w.alloc (.cells #[.int .i64 0, .string ⟨#[]⟩, .slice none 0 0, .int .u64 0, .int .u64 0, .slice none 0 0, .string ⟨#[]⟩, .int .i64 0, .string ⟨#[]⟩] 82)).alloc (.cells #[.string s, .bool false] 152)) 82 #[.int .i64 0, .string ⟨#[]⟩, .slice none 0 0, .int .u64 0, .int .u64 0, .slice none 0 0, .string ⟨#[]⟩, .int .i64 0, .string ⟨#[]⟩]
      rw [World.size_alloc, World.size_alloc] at this; exact this
  obtain ⟨⟨k, r2, bad2⟩, hq⟩ : ∃ q, rn (toL s, false) = q := ⟨_, rfl⟩
  have HC1 := Lib.hid (rnum7_any (w.heap.size + 1) (toL s) false W1 HD1.out.r hsl)
  have h2l := rn_len (toL s, false)
  rw [hq] at HC1 h2l
  simp only at h2l HC1
  have HL2 : Hid (r2.length ≤ (toL s).length) := h2l.1
  have HK : Hid (k ≤ 1099511627776) := h2l.2
  clear h2l hs
  have HW1 := Lib.hid hW1
  clear hW1
  by_cases hk2 : k = 2
  · subst hk2
    have HP0 := Lib.hid (pz7_two hq)
    have HC2 : Hid (Calls Tryz.prog 123 #[.pointer (some ⟨w.heap.size + 1, 0, none⟩)] W1 (RzE (.int .i64 2) (w.heap.size + 1) (r2, bad2) W1)) := HC1.out
    clear HC1 hq
    go_enter Tryz.func85, Tryz.ntmps85
    go_wp2_with fail
    rw [HW1.out]
    refine HC2.out.mono ?_
    rintro e v2 ⟨rfl, hr, hg⟩
    have HDv := Lib.hid (HD1.out.read hr hg)
    clear hr hg HC2 HD1 HW1
    obtain ⟨y0, y1, y2, y3, y4, y5, y6, y7, y8⟩ := HDv.out.o.nine
    have f0 := HDv.out.o.free 0
    obtain ⟨W2, hW2⟩ : ∃ W, (v2.setCell ⟨w.heap.size + 1 + 1, 0, none⟩ (.int .i64 2)) = W := ⟨_, rfl⟩
    have HD2 : Hid (DeSt w W2 #[.int .i64 2, .string ⟨#[]⟩, .slice none 0 0, .int .u64 0, .int .u64 0, .slice none 0 0, .string ⟨#[]⟩, .int .i64 0, .string ⟨#[]⟩] r2 bad2) := by rw [← hW2]; exact (HDv.out.set 0 (.int .i64 2))
    clear HDv
    obtain ⟨c0, c1, c2, c3, c4, c5, c6, c7, c8⟩ := HD2.out.o.nine
    obtain ⟨⟨nn, r3, bad3⟩, hq⟩ : ∃ q, rn (r2, bad2) = q := ⟨_, rfl⟩
    have HC := Lib.hid (rnum7_any (w.heap.size + 1) r2 bad2 W2 HD2.out.r (HLN.out _ HL2.out))
    have hl := rn_len (r2, bad2)
    rw [hq] at HC hl
    have HQ3 := Lib.hid hq
    simp only at HC hl
    have HL3 : Hid (r3.length ≤ (toL s).length) := by have := HL2.out; show _ ≤ _; omega
    have HE3 := Lib.hid hl
    clear hq hl
    go_wp2_with fail
    refine HC.out.mono ?_
    rintro e W3 ⟨rfl, hr, hg⟩
    have HD3 := Lib.hid (HD2.out.read hr hg)
    clear hr hg HC HD2 hW2 c0 c1 c2 c3 c4 c5 c6 c7 c8 y0 y1 y2 y3 y4 y5 y6 y7 y8
    obtain ⟨i0, hi, hz0, hz1, hz2⟩ := info_parts infoEnt
    have Hi := Lib.hid hi; have Hz0 := Lib.hid hz0; have Hz1 := Lib.hid hz1; have Hz2 := Lib.hid hz2
    clear hi hz0 hz1 hz2
    have hsl := HS.out
    go_wp2_with fail
    go_loopw [7] (fun i wr => ∃ (j : Nat) (Aj : Option Addr) (cj : Nat) (rj : Bytes) (bj : Bool) (es : List Ent), i = .int .i64 (j : Int) ∧ j ≤ 1000001 ∧ j ≤ cj ∧ cj ≤ maxLen ∧ Hid (Apd wr (w.heap.size + 1 + 1 + 1) 102 4 Aj j cj (flat enC es)) ∧ Hid (DeSt w wr #[.int .i64 2, .string ⟨#[]⟩, .slice Aj j cj, .int .u64 0, .int .u64 0, .slice none 0 0, .string ⟨#[]⟩, .int .i64 0, .string ⟨#[]⟩] rj bj) ∧ Hid (rE nn (r3, bad3) = (es ++ (rE (nn - j) (rj, bj)).1, (rE (nn - j) (rj, bj)).2)) ∧ Hid (rj.length ≤ r3.length) ∧ Hid (Far j rj bj r3.length)) (fun i _ => nn - (intOf i).toNat)
    case atStart => exact ⟨0, none, 0, r3, bad3, [], rfl, Nat.zero_le _, Nat.le_refl _, Nat.zero_le _, .inr ⟨rfl, rfl, rfl⟩, HD3.out, by show _ = _; simp, Nat.le_refl _, fun _ => by omega⟩
    case round =>
      obtain ⟨j, Aj, cj, rj, bj, es, rfl, hj, hjc, hcm, hA, hD, hE, hrl, hF⟩ := hrel
      obtain ⟨WX, hwx⟩ : ∃ wo, wo = wr := ⟨_, rfl⟩
      subst hwx
      clear HD3
      have HLj : Hid (rj.length ≤ (toL s).length) := by have := hrl.out; have := HL3.out; show _ ≤ _; omega
      obtain ⟨x0, x1, _, _⟩ := hD.out.r.two
      have zX := hD.out.lt
      by_cases hlt : j < nn
      · have hlz : (j : Int) < (nn : Int) := by omega
        cases bj with
        | true =>
          have HX := Lib.hid (rE_end hE.out (.inr rfl))
          clear hE hF
          have HP : Hid (pz7 (toL s) = (⟨2, ⟨#[]⟩, es, zD, [], ⟨#[]⟩, 0, ⟨#[]⟩⟩, (rj, true))) := by show _ = _; rw [HP0.out, HQ3.out]; simp only; rw [HX.out]
          have HOK7 : Hid (∀ e ∈ es, e.nm.size ≤ 1000000 ∧ WfD e.dg) := fun e he => by
            have h1 := (rE_ok nn (r3, bad3)).1
            rw [HX.out] at h1
            have h2 := h1 e he
            have h3 := HLN.out _ HL3.out
            exact ⟨Nat.le_trans h2.1 h3, h2.2⟩
          have HDX := hD
          have hWX : True := trivial
          have c0 := True; have c1 := True; have c2 := True; have c3 := True; have c4 := True; have c5 := True; have c6 := True; have c7 := True; have c8 := True; have y0 := True; have y1 := True; have y2 := True; have y3 := True; have y4 := True; have y5 := True; have y6 := True; have y7 := True; have y8 := True
          clear x0 x1
          have HM : Hid (ObM WX WX.heap.size ⟨2, ⟨#[]⟩, es, zD, [], ⟨#[]⟩, 0, ⟨#[]⟩⟩ ⟨Aj, j, cj, none, 0, 0⟩) := ⟨hA.out.sl, Sl.nil _ _ _ _, hjc, hcm, Nat.le_refl _, Nat.zero_le _⟩
          have HCK := Lib.hid (encodeF7_any ⟨2, ⟨#[]⟩, es, zD, [], ⟨#[]⟩, 0, ⟨#[]⟩⟩ ⟨Aj, j, cj, none, 0, 0⟩ WX.heap.size WX HM.out (Nat.le_refl _) ⟨wf_zD, (fun d h => by cases h), Nat.zero_le _, Nat.zero_le _, Int.le_refl _, by show (0 : Int) ≤ _; omega, fun e he => (HOK7.out e he).1, fun e he => (HOK7.out e he).2⟩)
          obtain ⟨op, hop⟩ : ∃ op : Ob, op = ⟨2, ⟨#[]⟩, es, zD, [], ⟨#[]⟩, 0, ⟨#[]⟩⟩ := ⟨_, rfl⟩
          obtain ⟨osl, hosl⟩ : ∃ osl : Osl, osl = ⟨Aj, j, cj, none, 0, 0⟩ := ⟨_, rfl⟩
          have HOP := Lib.hid hop
          have HOS := Lib.hid hosl
          rw [← hop] at HP
          rw [← hop, ← hosl] at HM
          obtain ⟨bs, hbs⟩ : ∃ bs, ofL (encO op) = bs := ⟨_, rfl⟩
          have HBAD : Hid ((true = true ∨ ¬ (OkO op ∧ bs = s)) → ∀ o', OkO o' → s ≠ ofL (encO o')) := fun h => by
            rcases h with h | h
            · have hp := HP.out
              rw [h] at hp; exact decE_bad hp
            · rw [← hbs] at h; exact decE_not HP.out h
          unfold En7 at HCK
          rw [← hop, hbs] at HCK
          have HBS := Lib.hid hbs
          obtain ⟨p, hp⟩ : ∃ p, OkO op = p := ⟨_, rfl⟩
          have HPE := Lib.hid hp
          rw [hp] at HBAD HCK
          rw [hop] at HCK
          simp only [obV, obC] at HCK
          clear c0 c1 c2 c3 c4 c5 c6 c7 c8
          obtain ⟨c0, c1, c2, c3, c4, c5, c6, c7, c8⟩ := HDX.out.o.nine
          obtain ⟨x0, x1, _, _⟩ := HDX.out.r.two
          clear hop hosl hbs hp HP0 HP
          go_wp2_with fail
          refine HCK.out.mono ?_
          rintro e w8 ⟨hq, hb8⟩
          have HD8 := Lib.hid (HDX.out.below (hb8.mono HDX.out.lt))
          have HM8 := Lib.hid ((HM.out.below hb8 (Nat.le_refl _)).more hb8.size)
          have HA8 := Lib.hid (hA.out.below hb8)
          clear c0 c1 c2 c3 c4 c5 c6 c7 c8 y0 y1 y2 y3 y4 y5 y6 y7 y8 x0 x1 hb8 HCK hWX HM
          obtain ⟨c0, c1, c2, c3, c4, c5, c6, c7, c8⟩ := HD8.out.o.nine
          obtain ⟨x0, x1, _, _⟩ := HD8.out.r.two
          obtain ⟨d0, d1', d2', d3, d4, d5, d6, d7, d8⟩ := HD8.out.z.nine
          have g0 := HD8.out.z.free 0; have g1 := HD8.out.z.free 1; have g2 := HD8.out.z.free 2; have g3 := HD8.out.z.free 3; have g4 := HD8.out.z.free 4; have g5 := HD8.out.z.free 5; have g6 := HD8.out.z.free 6; have g7 := HD8.out.z.free 7; have g8 := HD8.out.z.free 8
          have hne : w.heap.size ≠ w.heap.size + 1 + 1 := by omega
          have HB := Lib.hid (HBAD.out (.inl (by trivial)))
          rcases hq with ⟨hp, rfl⟩ | ⟨hp, z, hz, rfl⟩
          · clear hp
            go_wp2_with fail
            refine bodyPost_ret (res_cellOb Tryz.results85 rfl (bk_set9 HD8.out.z _ _ _ _ _ _ _ _ _) rfl) rfl ⟨.inr ⟨HB.out, rfl⟩, below_set9 HD8.out.b (Nat.le_refl _) _ _ _ _ _ _ _ _ _⟩
          · have hzn : (z != 0) = true := by rw [bne_iff_ne]; exact hz
            clear hp hz
            go_wp2_with fail
            refine bodyPost_ret (res_cellOb Tryz.results85 rfl (bk_set9 HD8.out.z _ _ _ _ _ _ _ _ _) rfl) rfl ⟨.inr ⟨HB.out, rfl⟩, below_set9 HD8.out.b (Nat.le_refl _) _ _ _ _ _ _ _ _ _⟩
        | false =>
          have hjr : j + 1 ≤ 1000001 := by have h1 := hF.out rfl; have h2 := HLN.out _ HL3.out; omega
          obtain ⟨W5, hW5⟩ : ∃ W, WX.alloc (.cells #[.string ⟨#[]⟩, .bool false, .int .u64 0, .int .u64 0] 102) = W := ⟨_, rfl⟩
          have hb5 : Below WX.heap.size WX W5 := by rw [← hW5]; exact (Below.refl _ WX).alloc (Nat.le_refl _) _
          have HG5 : Hid (Gb (fun g => g = w.heap.size + 1) WX W5) := Gb.of_below hb5
          have HE5 : Hid (Bk W5 WX.heap.size 102 #[.string ⟨#[]⟩, .bool false, .int .u64 0, .int .u64 0]) := by rw [← hW5]; exact Bk.new WX _ _
          have HR5 : Hid (Bk W5 (w.heap.size + 1) 152 #[.string (ofL rj), .bool false]) := hD.out.r.below hb5 (by omega)
          obtain ⟨⟨t, ra, ba⟩, hqa⟩ : ∃ q, rt (rj, false) = q := ⟨_, rfl⟩
          obtain ⟨⟨x, rb, bb⟩, hqb⟩ : ∃ q, rn (ra, ba) = q := ⟨_, rfl⟩
          obtain ⟨⟨⟨d1, d2⟩, rc, bc⟩, hqc⟩ : ∃ q, rg (rb, bb) = q := ⟨_, rfl⟩
          have hla := rt_len (rj, false); have hlb := rn_len (ra, ba); have hlc := rg_len (rb, bb)
          rw [hqa] at hla; rw [hqb] at hlb; rw [hqc] at hlc
          simp only at hla hlb hlc
          have HST := Lib.hid (rE_step hE.out hlt hqa hqb hqc)
          have HFA : Hid (Far (j + 1) rc bc r3.length) := hF.out.step rfl hqc (by simp only; omega)
          have HLc : Hid (rc.length ≤ r3.length) := by show _ ≤ _; have := hrl.out; omega
          have HLa : Hid (ra.length ≤ 1000000) := by show _ ≤ _; have := HLN.out _ HLj.out; omega
          have HLb : Hid (rb.length ≤ 1000000) := by show _ ≤ _; have := HLN.out _ HLj.out; omega
          have HC := Lib.hid (rtxt7_any (w.heap.size + 1) rj false W5 HR5.out (HLN.out _ HLj.out))
          rw [hqa] at HC
          have HQA := Lib.hid hqa; have HQB := Lib.hid hqb; have HQC := Lib.hid hqc
          have HW5 := Lib.hid hW5
          clear hqa hqb hqc hla hlb hlc hE hF hrl hb5 hW5
          go_wp2_with fail
          rw [HW5.out]
          refine HC.out.mono ?_
          rintro e v6 ⟨rfl, hr6, hg6⟩
          have HG6 := Lib.hid (HG5.out.trans hg6)
          have HE6 := Lib.hid (hg6.bk HE5.out (by show ¬ WX.heap.size = w.heap.size + 1; omega))
          have HR6 := Lib.hid hr6
          clear hr6 hg6 HC HG5 HE5 HR5 HW5
          obtain ⟨y0, y1, y2, y3⟩ := HE6.out.four
          have f0 := HE6.out.free 0
          obtain ⟨W7, hW7⟩ : ∃ W, v6.setCell ⟨WX.heap.size, 0, none⟩ (.string (ofL t)) = W := ⟨_, rfl⟩
          have HG7 : Hid (Gb (fun g => g = w.heap.size + 1) WX W7) := by rw [← hW7]; exact HG6.out.after (Nat.le_refl _) 0 _
          have HE7 : Hid (Bk W7 WX.heap.size 102 #[.string (ofL t), .bool false, .int .u64 0, .int .u64 0]) := by rw [← hW7]; exact HE6.out.set 0 (.string (ofL t))
          have HR7 : Hid (Bk W7 (w.heap.size + 1) 152 #[.string (ofL ra), .bool ba]) := by rw [← hW7]; exact HR6.out.far (p := ⟨WX.heap.size, 0, none⟩) (by show w.heap.size + 1 ≠ WX.heap.size; omega) _
          have HC := Lib.hid (rnum7_any (w.heap.size + 1) ra ba W7 HR7.out HLa.out)
          rw [HQB.out] at HC
          clear HG6 HE6 HR6
          go_wp2_with fail
          refine HC.out.mono ?_
          rintro e v8 ⟨rfl, hr8, hg8⟩
          have HG8 := Lib.hid (HG7.out.trans hg8)
          have HE8 := Lib.hid (hg8.bk HE7.out (by show ¬ WX.heap.size = w.heap.size + 1; omega))
          have HR8 := Lib.hid hr8
          clear hr8 hg8 HC HG7 HE7 HR7 hW7 y0 y1 y2 y3 f0
          obtain ⟨y0, y1, y2, y3⟩ := HE8.out.four
          have f1 := HE8.out.free 1
          have hx1 : ((x : Int) == 1) = decide (x = 1) := by rw [Bool.eq_iff_iff]; simp; omega
          obtain ⟨W9, hW9⟩ : ∃ W, v8.setCell ⟨WX.heap.size, 1, none⟩ (.bool (decide (x = 1))) = W := ⟨_, rfl⟩
          have HG9 : Hid (Gb (fun g => g = w.heap.size + 1) WX W9) := by rw [← hW9]; exact HG8.out.after (Nat.le_refl _) 1 _
          have HE9 : Hid (Bk W9 WX.heap.size 102 #[.string (ofL t), .bool (decide (x = 1)), .int .u64 0, .int .u64 0]) := by rw [← hW9]; exact HE8.out.set 1 (.bool (decide (x = 1)))
          have HR9 : Hid (Bk W9 (w.heap.size + 1) 152 #[.string (ofL rb), .bool bb]) := by rw [← hW9]; exact HR8.out.far (p := ⟨WX.heap.size, 1, none⟩) (by show w.heap.size + 1 ≠ WX.heap.size; omega) _
          have HC := Lib.hid (rdig7_any (w.heap.size + 1) rb bb W9 HR9.out HLb.out)
          rw [HQC.out] at HC
          clear HG8 HE8 HR8
          go_wp2_with fail
          refine HC.out.mono ?_
          rintro e v10 ⟨rfl, hr10, hg10⟩
          simp only [digV]
          have HG10 := Lib.hid (HG9.out.trans hg10)
          have HE10 := Lib.hid (hg10.bk HE9.out (by show ¬ WX.heap.size = w.heap.size + 1; omega))
          have HR10 := Lib.hid hr10
          clear hr10 hg10 HC HG9 HE9 HR9 hW9 y0 y1 y2 y3 f1 x0 x1
          obtain ⟨y0, y1, y2, y3⟩ := HE10.out.four
          have f2 := HE10.out.free 2; have f3 := HE10.out.free 3
          obtain ⟨W11, hW11⟩ : ∃ W, (v10.setCell ⟨WX.heap.size, 2, none⟩ (.int .u64 d1)).setCell ⟨WX.heap.size, 3, none⟩ (.int .u64 d2) = W := ⟨_, rfl⟩
          have HG11 : Hid (Gb (fun g => g = w.heap.size + 1) WX W11) := by rw [← hW11]; exact (HG10.out.after (Nat.le_refl _) 2 _).after (Nat.le_refl _) 3 _
          have HE11 : Hid (Bk W11 WX.heap.size 102 #[.string (ofL t), .bool (decide (x = 1)), .int .u64 d1, .int .u64 d2]) := by rw [← hW11]; exact (HE10.out.set 2 (.int .u64 d1)).set 3 (.int .u64 d2)
          have HR11 : Hid (Bk W11 (w.heap.size + 1) 152 #[.string (ofL rc), .bool bc]) := by rw [← hW11]; exact (HR10.out.far (p := ⟨WX.heap.size, 2, none⟩) (by show w.heap.size + 1 ≠ WX.heap.size; omega) _).far (p := ⟨WX.heap.size, 3, none⟩) (by show w.heap.size + 1 ≠ WX.heap.size; omega) _
          have HD11 := Lib.hid (hD.out.read HR11.out HG11.out)
          have HA11 := Lib.hid (hA.out.gb HG11.out (by omega))
          obtain ⟨u0, u1, u2, u3⟩ := HE11.out.four
          obtain ⟨c0, c1, c2, c3, c4, c5, c6, c7, c8⟩ := HD11.out.o.nine
          have hs11 : w.heap.size + 3 ≤ W11.heap.size := HD11.out.lt
          clear HG10 HE10 HR10 hD hA
          go_wp2_with (at_builtin; refine halt_orl (.tmp 53) (.tmp 55) 79 rfl ?_)
          refine unhalt ?_
          refine wpList_append_apd (base := (w.heap.size + 1 + 1 + 1)) (size := 4) _ rfl (.tmp 53) (.tmp 55) 79 rfl 102 i0 _ 40 Tryz.underlying79 Hi.out Hz0.out Hz1.out Hz2.out rfl (by decide) Aj j cj (flat enC es) rfl ?own_1 (W11.heap.size + 1) _ 1 _ (enC ⟨ofL t, decide (x = 1), (d1, d2)⟩) rfl ?nw_1 (by simp [enC, Value.oneCell']) ?m1_1 ?m2_1 ?m3_1 ?_
          case own_1 => exact HA11.out.below ((Below.refl _ W11).alloc (Nat.le_refl _) _)
          case nw_1 =>
            have := Sl.of_bk (n := 1) (size := 4) (Bk.new W11 102 #[.string (ofL t), .bool (decide (x = 1)), .int .u64 d1, .int .u64 d2]) rfl
            rw [World.size_alloc] at this; exact this
          case m1_1 => unfold maxLen; omega
          case m2_1 => omega
          case m3_1 => simp; omega
          intro A4 c4' w4 ha4 hb4 hn4 hm4 hok4
          have HA4 : Hid (Apd w4 (w.heap.size + 1 + 1 + 1) 102 4 A4 (j + 1) c4' (flat enC (es ++ [⟨ofL t, decide (x = 1), (d1, d2)⟩]))) := by
            show Apd _ _ _ _ _ _ _ _
            rw [flat_append]
            simpa [flat] using ha4
          have hbo : Below (w.heap.size + 3) W11 w4 := ((Below.refl (w.heap.size + 3) W11).alloc (by omega) _).trans hb4
          have HD4 := Lib.hid (HD11.out.below hbo)
          clear ha4 hb4 hok4 hbo HD11 HA11 HE11 HR11 HG11 hW11 c0 c1 c2 c3 c4 c5 c6 c7 c8 y0 y1 y2 y3 f2 f3 u0 u1 u2 u3
          obtain ⟨c0, c1, c2, c3, c4, c5, c6, c7, c8⟩ := HD4.out.o.nine
          have f2 := HD4.out.o.free 2
          have HD12 := Lib.hid (HD4.out.set 2 (.slice A4 (j + 1) c4'))
          go_wp2_with fail
          go_roundw
          case rel => exact ⟨j + 1, A4, c4', rc, bc, es ++ [(⟨ofL t, decide (x = 1), (d1, d2)⟩ : Ent)], by go_num, hjr, hn4, hm4, HA4.out.setCell (a := ⟨w.heap.size + 1 + 1, 2, none⟩) (Nat.lt_succ_self _) _, HD12.out, HST.out, HLc.out, HFA.out⟩
          case measure => simp [intOf]; omega
      · have hlz : ¬ (j : Int) < (nn : Int) := by omega
        have HX := Lib.hid (rE_end hE.out (.inl (by omega)))
        clear hE hF
        have HP : Hid (pz7 (toL s) = (⟨2, ⟨#[]⟩, es, zD, [], ⟨#[]⟩, 0, ⟨#[]⟩⟩, (rj, bj))) := by show _ = _; rw [HP0.out, HQ3.out]; simp only; rw [HX.out]
        have HOK7 : Hid (∀ e ∈ es, e.nm.size ≤ 1000000 ∧ WfD e.dg) := fun e he => by
          have h1 := (rE_ok nn (r3, bad3)).1
          rw [HX.out] at h1
          have h2 := h1 e he
          have h3 := HLN.out _ HL3.out
          exact ⟨Nat.le_trans h2.1 h3, h2.2⟩
        have HDX := hD
        have hWX : True := trivial
        have c0 := True; have c1 := True; have c2 := True; have c3 := True; have c4 := True; have c5 := True; have c6 := True; have c7 := True; have c8 := True; have y0 := True; have y1 := True; have y2 := True; have y3 := True; have y4 := True; have y5 := True; have y6 := True; have y7 := True; have y8 := True
        clear x0 x1
        have HM : Hid (ObM WX WX.heap.size ⟨2, ⟨#[]⟩, es, zD, [], ⟨#[]⟩, 0, ⟨#[]⟩⟩ ⟨Aj, j, cj, none, 0, 0⟩) := ⟨hA.out.sl, Sl.nil _ _ _ _, hjc, hcm, Nat.le_refl _, Nat.zero_le _⟩
        have HCK := Lib.hid (encodeF7_any ⟨2, ⟨#[]⟩, es, zD, [], ⟨#[]⟩, 0, ⟨#[]⟩⟩ ⟨Aj, j, cj, none, 0, 0⟩ WX.heap.size WX HM.out (Nat.le_refl _) ⟨wf_zD, (fun d h => by cases h), Nat.zero_le _, Nat.zero_le _, Int.le_refl _, by show (0 : Int) ≤ _; omega, fun e he => (HOK7.out e he).1, fun e he => (HOK7.out e he).2⟩)
        obtain ⟨op, hop⟩ : ∃ op : Ob, op = ⟨2, ⟨#[]⟩, es, zD, [], ⟨#[]⟩, 0, ⟨#[]⟩⟩ := ⟨_, rfl⟩
        obtain ⟨osl, hosl⟩ : ∃ osl : Osl, osl = ⟨Aj, j, cj, none, 0, 0⟩ := ⟨_, rfl⟩
        have HOP := Lib.hid hop
        have HOS := Lib.hid hosl
        rw [← hop] at HP
        rw [← hop, ← hosl] at HM
        obtain ⟨bs, hbs⟩ : ∃ bs, ofL (encO op) = bs := ⟨_, rfl⟩
        have HBAD : Hid ((bj = true ∨ ¬ (OkO op ∧ bs = s)) → ∀ o', OkO o' → s ≠ ofL (encO o')) := fun h => by
          rcases h with h | h
          · have hp := HP.out
            rw [h] at hp; exact decE_bad hp
          · rw [← hbs] at h; exact decE_not HP.out h
        unfold En7 at HCK
        rw [← hop, hbs] at HCK
        have HBS := Lib.hid hbs
        obtain ⟨p, hp⟩ : ∃ p, OkO op = p := ⟨_, rfl⟩
        have HPE := Lib.hid hp
        rw [hp] at HBAD HCK
        rw [hop] at HCK
        simp only [obV, obC] at HCK
        clear c0 c1 c2 c3 c4 c5 c6 c7 c8
        obtain ⟨c0, c1, c2, c3, c4, c5, c6, c7, c8⟩ := HDX.out.o.nine
        obtain ⟨x0, x1, _, _⟩ := HDX.out.r.two
        clear hop hosl hbs hp HP0 HP
        go_wp2_with fail
        refine HCK.out.mono ?_
        rintro e w8 ⟨hq, hb8⟩
        have HD8 := Lib.hid (HDX.out.below (hb8.mono HDX.out.lt))
        have HM8 := Lib.hid ((HM.out.below hb8 (Nat.le_refl _)).more hb8.size)
        have HA8 := Lib.hid (hA.out.below hb8)
        clear c0 c1 c2 c3 c4 c5 c6 c7 c8 y0 y1 y2 y3 y4 y5 y6 y7 y8 x0 x1 hb8 HCK hWX HM
        obtain ⟨c0, c1, c2, c3, c4, c5, c6, c7, c8⟩ := HD8.out.o.nine
        obtain ⟨x0, x1, _, _⟩ := HD8.out.r.two
        obtain ⟨d0, d1', d2', d3, d4, d5, d6, d7, d8⟩ := HD8.out.z.nine
        have g0 := HD8.out.z.free 0; have g1 := HD8.out.z.free 1; have g2 := HD8.out.z.free 2; have g3 := HD8.out.z.free 3; have g4 := HD8.out.z.free 4; have g5 := HD8.out.z.free 5; have g6 := HD8.out.z.free 6; have g7 := HD8.out.z.free 7; have g8 := HD8.out.z.free 8
        have hne : w.heap.size ≠ w.heap.size + 1 + 1 := by omega
        rcases hq with ⟨hp, rfl⟩ | ⟨hp, z, hz, rfl⟩
        · cases bj with
          | true =>
            have HB := Lib.hid (HBAD.out (.inl (by trivial)))
            clear hp
            go_wp2_with fail
            refine bodyPost_ret (res_cellOb Tryz.results85 rfl (bk_set9 HD8.out.z _ _ _ _ _ _ _ _ _) rfl) rfl ⟨.inr ⟨HB.out, rfl⟩, below_set9 HD8.out.b (Nat.le_refl _) _ _ _ _ _ _ _ _ _⟩
          | false =>
            have l1 : (bs.toList != s.toList) = !(decide (bs = s)) := by rw [← str_dec]; rfl
            have l2 := str_dec bs s
            by_cases hbe : bs = s
            · rw [decide_eq_true hbe] at l1 l2
              have HOK := Lib.hid hp
              have HBE := Lib.hid hbe
              clear hp hbe
              go_wp2_with fail
              refine bodyPost_ret (res_cellOb Tryz.results85 rfl (bk_set9 HD8.out.z _ _ _ _ _ _ _ _ _) rfl) rfl ⟨.inl ⟨op, osl, by rw [HPE.out]; exact HOK.out, by rw [HBS.out]; exact HBE.out.symm, by rw [HOP.out, HOS.out]; rfl, ?_⟩, below_set9 HD8.out.b (Nat.le_refl _) _ _ _ _ _ _ _ _ _⟩
              rw [HOP.out, HOS.out]
              exact ⟨(HA8.out.set9 (by omega) _ _ _ _ _ _ _ _ _).sl, Sl.nil _ _ _ _, hjc, hcm, Nat.le_refl _, Nat.zero_le _⟩
            · rw [decide_eq_false hbe] at l1 l2
              have HB := Lib.hid (HBAD.out (.inr (fun h => hbe h.2)))
              clear hp hbe
              go_wp2_with fail
              refine bodyPost_ret (res_cellOb Tryz.results85 rfl (bk_set9 HD8.out.z _ _ _ _ _ _ _ _ _) rfl) rfl ⟨.inr ⟨HB.out, rfl⟩, below_set9 HD8.out.b (Nat.le_refl _) _ _ _ _ _ _ _ _ _⟩
        · have HB := Lib.hid (HBAD.out (.inr (fun h => hp h.1)))
          have hzn : (z != 0) = true := by rw [bne_iff_ne]; exact hz
          clear hp hz
          cases bj with
          | true =>
            go_wp2_with fail
            refine bodyPost_ret (res_cellOb Tryz.results85 rfl (bk_set9 HD8.out.z _ _ _ _ _ _ _ _ _) rfl) rfl ⟨.inr ⟨HB.out, rfl⟩, below_set9 HD8.out.b (Nat.le_refl _) _ _ _ _ _ _ _ _ _⟩
          | false =>
            go_wp2_with fail
            refine bodyPost_ret (res_cellOb Tryz.results85 rfl (bk_set9 HD8.out.z _ _ _ _ _ _ _ _ _) rfl) rfl ⟨.inr ⟨HB.out, rfl⟩, below_set9 HD8.out.b (Nat.le_refl _) _ _ _ _ _ _ _ _ _⟩
  by_cases hk3 : k = 3
  · subst hk3
    have HP0 := Lib.hid (pz7_three hq)
    have HC2 : Hid (Calls Tryz.prog 123 #[.pointer (some ⟨w.heap.size + 1, 0, none⟩)] W1 (RzE (.int .i64 3) (w.heap.size + 1) (r2, bad2) W1)) := HC1.out
    clear HC1 hq
    go_enter Tryz.func85, Tryz.ntmps85
    go_wp2_with fail
    rw [HW1.out]
    refine HC2.out.mono ?_
    rintro e v2 ⟨rfl, hr, hg⟩
    have HDv := Lib.hid (HD1.out.read hr hg)
    clear hr hg HC2 HD1 HW1
    obtain ⟨y0, y1, y2, y3, y4, y5, y6, y7, y8⟩ := HDv.out.o.nine
    have f0 := HDv.out.o.free 0
    obtain ⟨W2, hW2⟩ : ∃ W, (v2.setCell ⟨w.heap.size + 1 + 1, 0, none⟩ (.int .i64 3)) = W := ⟨_, rfl⟩
    have HD2 : Hid (DeSt w W2 #[.int .i64 3, .string ⟨#[]⟩, .slice none 0 0, .int .u64 0, .int .u64 0, .slice none 0 0, .string ⟨#[]⟩, .int .i64 0, .string ⟨#[]⟩] r2 bad2) := by rw [← hW2]; exact (HDv.out.set 0 (.int .i64 3))
    clear HDv
    obtain ⟨c0, c1, c2, c3, c4, c5, c6, c7, c8⟩ := HD2.out.o.nine
    obtain ⟨⟨⟨d1, d2⟩, r3, bad3⟩, hq⟩ : ∃ q, rg (r2, bad2) = q := ⟨_, rfl⟩
    have HC := Lib.hid (rdig7_any (w.heap.size + 1) r2 bad2 W2 HD2.out.r (HLN.out _ HL2.out))
    have hl := rg_len (r2, bad2)
    rw [hq] at HC hl
    have HQ3 := Lib.hid hq
    simp only at HC hl
    have HL3 : Hid (r3.length ≤ (toL s).length) := by have := HL2.out; show _ ≤ _; omega
    have HE3 := Lib.hid hl
    clear hq hl
    go_wp2_with fail
    refine HC.out.mono ?_
    rintro e v3 ⟨rfl, hr, hg⟩
    simp only [digV]
    have HDv := Lib.hid (HD2.out.read hr hg)
    clear hr hg HC HD2 hW2 c0 c1 c2 c3 c4 c5 c6 c7 c8 y0 y1 y2 y3 y4 y5 y6 y7 y8
    obtain ⟨y0, y1, y2, y3, y4, y5, y6, y7, y8⟩ := HDv.out.o.nine
    have f3 := HDv.out.o.free 3
    have f4 := HDv.out.o.free 4
    obtain ⟨W3, hW3⟩ : ∃ W, ((v3.setCell ⟨w.heap.size + 1 + 1, 3, none⟩ (.int .u64 d1)).setCell ⟨w.heap.size + 1 + 1, 4, none⟩ (.int .u64 d2)) = W := ⟨_, rfl⟩
    have HD3 : Hid (DeSt w W3 #[.int .i64 3, .string ⟨#[]⟩, .slice none 0 0, .int .u64 d1, .int .u64 d2, .slice none 0 0, .string ⟨#[]⟩, .int .i64 0, .string ⟨#[]⟩] r3 bad3) := by rw [← hW3]; exact ((HDv.out.set 3 (.int .u64 d1)).set 4 (.int .u64 d2))
    clear HDv
    obtain ⟨c0, c1, c2, c3, c4, c5, c6, c7, c8⟩ := HD3.out.o.nine
    obtain ⟨⟨nn, r4, bad4⟩, hq⟩ : ∃ q, rn (r3, bad3) = q := ⟨_, rfl⟩
    have HC := Lib.hid (rnum7_any (w.heap.size + 1) r3 bad3 W3 HD3.out.r (HLN.out _ HL3.out))
    have hl := rn_len (r3, bad3)
    rw [hq] at HC hl
    have HQ4 := Lib.hid hq
    simp only at HC hl
    have HL4 : Hid (r4.length ≤ (toL s).length) := by have := HL3.out; show _ ≤ _; omega
    have HE4 := Lib.hid hl
    clear hq hl
    go_wp2_with fail
    refine HC.out.mono ?_
    rintro e W4 ⟨rfl, hr, hg⟩
    have HD4 := Lib.hid (HD3.out.read hr hg)
    clear hr hg HC HD3 hW3 c0 c1 c2 c3 c4 c5 c6 c7 c8 y0 y1 y2 y3 y4 y5 y6 y7 y8
    obtain ⟨i0, hi, hz0, hz1, hz2⟩ := info_parts infoDg
    have Hi := Lib.hid hi; have Hz0 := Lib.hid hz0; have Hz1 := Lib.hid hz1; have Hz2 := Lib.hid hz2
    clear hi hz0 hz1 hz2
    have hsl := HS.out
    go_wp2_with fail
    go_loopw [10] (fun i wr => ∃ (j : Nat) (Aj : Option Addr) (cj : Nat) (rj : Bytes) (bj : Bool) (es : List Dig), i = .int .i64 (j : Int) ∧ j ≤ 1000001 ∧ j ≤ cj ∧ cj ≤ maxLen ∧ Hid (Apd wr (w.heap.size + 1 + 1 + 1) 30 2 Aj j cj (flat dgC es)) ∧ Hid (DeSt w wr #[.int .i64 3, .string ⟨#[]⟩, .slice none 0 0, .int .u64 d1, .int .u64 d2, .slice Aj j cj, .string ⟨#[]⟩, .int .i64 0, .string ⟨#[]⟩] rj bj) ∧ Hid (rD nn (r4, bad4) = (es ++ (rD (nn - j) (rj, bj)).1, (rD (nn - j) (rj, bj)).2)) ∧ Hid (rj.length ≤ r4.length) ∧ Hid (Far j rj bj r4.length)) (fun i _ => nn - (intOf i).toNat)
    case atStart => exact ⟨0, none, 0, r4, bad4, [], rfl, Nat.zero_le _, Nat.le_refl _, Nat.zero_le _, .inr ⟨rfl, rfl, rfl⟩, HD4.out, by show _ = _; simp, Nat.le_refl _, fun _ => by omega⟩
    case round =>
      obtain ⟨j, Aj, cj, rj, bj, es, rfl, hj, hjc, hcm, hA, hD, hE, hrl, hF⟩ := hrel
      obtain ⟨WX, hwx⟩ : ∃ wo, wo = wr := ⟨_, rfl⟩
      subst hwx
      clear HD4
      have HLj : Hid (rj.length ≤ (toL s).length) := by have := hrl.out; have := HL4.out; show _ ≤ _; omega
      obtain ⟨x0, x1, _, _⟩ := hD.out.r.two
      have zX := hD.out.lt
      by_cases hlt : j < nn
      · have hlz : (j : Int) < (nn : Int) := by omega
        cases bj with
        | true =>
          have HX := Lib.hid (rD_end hE.out (.inr rfl))
          clear hE hF
          have HPW : Hid (∀ d ∈ es, WfD d) := fun e he => by
            have h1 := (rD_ok nn (r4, bad4)).1
            rw [HX.out] at h1
            exact h1 e he
          have HDX := hD
          have HAX := hA
          clear hD hA
          obtain ⟨⟨ta, r6, bad6⟩, hq⟩ : ∃ q, rt (rj, true) = q := ⟨_, rfl⟩
          have HC := Lib.hid (rtxt7_any (w.heap.size + 1) rj true WX HDX.out.r (HLN.out _ HLj.out))
          have hl := rt_len (rj, true)
          rw [hq] at HC hl
          have HQ6 := Lib.hid hq
          simp only at HC hl
          have HL6 : Hid (r6.length ≤ (toL s).length) := by have := HLj.out; show _ ≤ _; omega
          have HE6 := Lib.hid hl
          clear hq hl
          go_wp2_with fail
          refine HC.out.mono ?_
          rintro e v6 ⟨rfl, hr, hg⟩
          have HDv := Lib.hid (HDX.out.read hr hg)
          have HAv := Lib.hid (HAX.out.gb hg (by omega))
          clear hr hg HC HDX HAX x0 x1
          obtain ⟨y0, y1, y2, y3, y4, y5, y6, y7, y8⟩ := HDv.out.o.nine
          have f6 := HDv.out.o.free 6
          obtain ⟨W6, hW6⟩ : ∃ W, (v6.setCell ⟨w.heap.size + 1 + 1, 6, none⟩ (.string (ofL ta))) = W := ⟨_, rfl⟩
          have HD6 : Hid (DeSt w W6 #[.int .i64 3, .string ⟨#[]⟩, .slice none 0 0, .int .u64 d1, .int .u64 d2, .slice Aj j cj, .string (ofL ta), .int .i64 0, .string ⟨#[]⟩] r6 bad6) := by rw [← hW6]; exact (HDv.out.set 6 (.string (ofL ta)))
          clear HDv
          obtain ⟨c0, c1, c2, c3, c4, c5, c6, c7, c8⟩ := HD6.out.o.nine
          have HA6 := Lib.hid (HAv.out.setCell (a := ⟨w.heap.size + 1 + 1, 6, none⟩) (Nat.lt_succ_self _) (.string (ofL ta)))
          rw [hW6] at HA6
          clear HAv
          obtain ⟨⟨ti, r7, bad7⟩, hq⟩ : ∃ q, rn (r6, bad6) = q := ⟨_, rfl⟩
          have HC := Lib.hid (rnum7_any (w.heap.size + 1) r6 bad6 W6 HD6.out.r (HLN.out _ HL6.out))
          have hl := rn_len (r6, bad6)
          rw [hq] at HC hl
          have HQ7 := Lib.hid hq
          simp only at HC hl
          have HL7 : Hid (r7.length ≤ (toL s).length) := by have := HL6.out; show _ ≤ _; omega
          have HE7 := Lib.hid hl
          clear hq hl
          go_wp2_with fail
          refine HC.out.mono ?_
          rintro e v7 ⟨rfl, hr, hg⟩
          have HDv := Lib.hid (HD6.out.read hr hg)
          have HAv := Lib.hid (HA6.out.gb hg (by omega))
          clear hr hg HC HD6 HA6 hW6 c0 c1 c2 c3 c4 c5 c6 c7 c8 y0 y1 y2 y3 y4 y5 y6 y7 y8
          obtain ⟨y0, y1, y2, y3, y4, y5, y6, y7, y8⟩ := HDv.out.o.nine
          have f7 := HDv.out.o.free 7
          obtain ⟨W7, hW7⟩ : ∃ W, (v7.setCell ⟨w.heap.size + 1 + 1, 7, none⟩ (.int .i64 (ti : Int))) = W := ⟨_, rfl⟩
          have HD7 : Hid (DeSt w W7 #[.int .i64 3, .string ⟨#[]⟩, .slice none 0 0, .int .u64 d1, .int .u64 d2, .slice Aj j cj, .string (ofL ta), .int .i64 (ti : Int), .string ⟨#[]⟩] r7 bad7) := by rw [← hW7]; exact (HDv.out.set 7 (.int .i64 (ti : Int)))
          clear HDv
          obtain ⟨c0, c1, c2, c3, c4, c5, c6, c7, c8⟩ := HD7.out.o.nine
          have HA7 := Lib.hid (HAv.out.setCell (a := ⟨w.heap.size + 1 + 1, 7, none⟩) (Nat.lt_succ_self _) (.int .i64 (ti : Int)))
          rw [hW7] at HA7
          clear HAv
          obtain ⟨⟨tm, r8, bad8⟩, hq⟩ : ∃ q, rt (r7, bad7) = q := ⟨_, rfl⟩
          have HC := Lib.hid (rtxt7_any (w.heap.size + 1) r7 bad7 W7 HD7.out.r (HLN.out _ HL7.out))
          have hl := rt_len (r7, bad7)
          rw [hq] at HC hl
          have HQ8 := Lib.hid hq
          simp only at HC hl
          have HL8 : Hid (r8.length ≤ (toL s).length) := by have := HL7.out; show _ ≤ _; omega
          have HE8 := Lib.hid hl
          clear hq hl
          go_wp2_with fail
          refine HC.out.mono ?_
          rintro e v8 ⟨rfl, hr, hg⟩
          have HDv := Lib.hid (HD7.out.read hr hg)
          have HAv := Lib.hid (HA7.out.gb hg (by omega))
          clear hr hg HC HD7 HA7 hW7 c0 c1 c2 c3 c4 c5 c6 c7 c8 y0 y1 y2 y3 y4 y5 y6 y7 y8
          obtain ⟨y0, y1, y2, y3, y4, y5, y6, y7, y8⟩ := HDv.out.o.nine
          have f8 := HDv.out.o.free 8
          obtain ⟨W8, hW8⟩ : ∃ W, (v8.setCell ⟨w.heap.size + 1 + 1, 8, none⟩ (.string (ofL tm))) = W := ⟨_, rfl⟩
          have HD8 : Hid (DeSt w W8 #[.int .i64 3, .string ⟨#[]⟩, .slice none 0 0, .int .u64 d1, .int .u64 d2, .slice Aj j cj, .string (ofL ta), .int .i64 (ti : Int), .string (ofL tm)] r8 bad8) := by rw [← hW8]; exact (HDv.out.set 8 (.string (ofL tm)))
          clear HDv
          obtain ⟨c0, c1, c2, c3, c4, c5, c6, c7, c8⟩ := HD8.out.o.nine
          have HA8 := Lib.hid (HAv.out.setCell (a := ⟨w.heap.size + 1 + 1, 8, none⟩) (Nat.lt_succ_self _) (.string (ofL tm)))
          rw [hW8] at HA8
          clear HAv
          have HP : Hid (pz7 (toL s) = (⟨3, ⟨#[]⟩, [], (d1, d2), es, ofL ta, (ti : Int), ofL tm⟩, (r8, bad8))) := by
            show _ = _
            rw [HP0.out]
            simp only [HQ3.out, HQ4.out, HX.out, HQ6.out, HQ7.out, HQ8.out]
          have hla : (ofL ta).size ≤ 1000000 := by have h1 := HE6.out.2; have h2 := HLN.out _ HLj.out; rw [size_ofL]; omega
          have hlm : (ofL tm).size ≤ 1000000 := by have h1 := HE8.out.2; have h2 := HLN.out _ HL7.out; rw [size_ofL]; omega
          have hlt0 : ti ≤ 1099511627776 := HE7.out.2
          have HWD : Hid (WfD (d1, d2)) := HE3.out.2
          have HM : Hid (ObM W8 W8.heap.size ⟨3, ⟨#[]⟩, [], (d1, d2), es, ofL ta, (ti : Int), ofL tm⟩ ⟨none, 0, 0, Aj, j, cj⟩) := ⟨Sl.nil _ _ _ _, HA8.out.sl, Nat.le_refl _, Nat.zero_le _, hjc, hcm⟩
          have HCK := Lib.hid (encodeF7_any ⟨3, ⟨#[]⟩, [], (d1, d2), es, ofL ta, (ti : Int), ofL tm⟩ ⟨none, 0, 0, Aj, j, cj⟩ W8.heap.size W8 HM.out (Nat.le_refl _) ⟨HWD.out, HPW.out, hla, hlm, by show (0 : Int) ≤ (ti : Int); omega, by show (ti : Int) ≤ _; omega, (fun e h => by cases h), (fun e h => by cases h)⟩)
          obtain ⟨op, hop⟩ : ∃ op : Ob, op = ⟨3, ⟨#[]⟩, [], (d1, d2), es, ofL ta, (ti : Int), ofL tm⟩ := ⟨_, rfl⟩
          obtain ⟨osl, hosl⟩ : ∃ osl : Osl, osl = ⟨none, 0, 0, Aj, j, cj⟩ := ⟨_, rfl⟩
          have HOP := Lib.hid hop
          have HOS := Lib.hid hosl
          rw [← hop] at HP
          rw [← hop, ← hosl] at HM
          obtain ⟨bs, hbs⟩ : ∃ bs, ofL (encO op) = bs := ⟨_, rfl⟩
          have HBAD : Hid ((bad8 = true ∨ ¬ (OkO op ∧ bs = s)) → ∀ o', OkO o' → s ≠ ofL (encO o')) := fun h => by
            rcases h with h | h
            · have hp := HP.out
              rw [h] at hp; exact decE_bad hp
            · rw [← hbs] at h; exact decE_not HP.out h
          unfold En7 at HCK
          rw [← hop, hbs] at HCK
          have HBS := Lib.hid hbs
          obtain ⟨p, hp⟩ : ∃ p, OkO op = p := ⟨_, rfl⟩
          have HPE := Lib.hid hp
          rw [hp] at HBAD HCK
          rw [hop] at HCK
          simp only [obV, obC] at HCK
          clear c0 c1 c2 c3 c4 c5 c6 c7 c8
          obtain ⟨c0, c1, c2, c3, c4, c5, c6, c7, c8⟩ := HD8.out.o.nine
          obtain ⟨x0, x1, _, _⟩ := HD8.out.r.two
          clear hop hosl hbs hp HP0 HP
          go_wp2_with fail
          refine HCK.out.mono ?_
          rintro e w8 ⟨hq, hb8⟩
          have HD9 := Lib.hid (HD8.out.below (hb8.mono HD8.out.lt))
          have HM8 := Lib.hid ((HM.out.below hb8 (Nat.le_refl _)).more hb8.size)
          have HA9 := Lib.hid (HA8.out.below hb8)
          clear c0 c1 c2 c3 c4 c5 c6 c7 c8 y0 y1 y2 y3 y4 y5 y6 y7 y8 x0 x1 hb8 HCK hW8 HM
          obtain ⟨c0, c1, c2, c3, c4, c5, c6, c7, c8⟩ := HD9.out.o.nine
          obtain ⟨x0, x1, _, _⟩ := HD9.out.r.two
          obtain ⟨d0, d1', d2', d3, d4, d5, d6, d7, d8⟩ := HD9.out.z.nine
          have g0 := HD9.out.z.free 0; have g1 := HD9.out.z.free 1; have g2 := HD9.out.z.free 2; have g3 := HD9.out.z.free 3; have g4 := HD9.out.z.free 4; have g5 := HD9.out.z.free 5; have g6 := HD9.out.z.free 6; have g7 := HD9.out.z.free 7; have g8 := HD9.out.z.free 8
          have hne : w.heap.size ≠ w.heap.size + 1 + 1 := by omega
          rcases hq with ⟨hp, rfl⟩ | ⟨hp, z, hz, rfl⟩
          · cases bad8 with
            | true =>
              have HB := Lib.hid (HBAD.out (.inl (by trivial)))
              clear hp
              go_wp2_with fail
              refine bodyPost_ret (res_cellOb Tryz.results85 rfl (bk_set9 HD9.out.z _ _ _ _ _ _ _ _ _) rfl) rfl ⟨.inr ⟨HB.out, rfl⟩, below_set9 HD9.out.b (Nat.le_refl _) _ _ _ _ _ _ _ _ _⟩
            | false =>
              have l1 : (bs.toList != s.toList) = !(decide (bs = s)) := by rw [← str_dec]; rfl
              have l2 := str_dec bs s
              by_cases hbe : bs = s
              · rw [decide_eq_true hbe] at l1 l2
                have HOK := Lib.hid hp
                have HBE := Lib.hid hbe
                clear hp hbe
                go_wp2_with fail
                refine bodyPost_ret (res_cellOb Tryz.results85 rfl (bk_set9 HD9.out.z _ _ _ _ _ _ _ _ _) rfl) rfl ⟨.inl ⟨op, osl, by rw [HPE.out]; exact HOK.out, by rw [HBS.out]; exact HBE.out.symm, by rw [HOP.out, HOS.out]; rfl, ?_⟩, below_set9 HD9.out.b (Nat.le_refl _) _ _ _ _ _ _ _ _ _⟩
                rw [HOP.out, HOS.out]
                exact ⟨Sl.nil _ _ _ _, (HA9.out.set9 (by omega) _ _ _ _ _ _ _ _ _).sl, Nat.le_refl _, Nat.zero_le _, hjc, hcm⟩
              · rw [decide_eq_false hbe] at l1 l2
                have HB := Lib.hid (HBAD.out (.inr (fun h => hbe h.2)))
                clear hp hbe
                go_wp2_with fail
                refine bodyPost_ret (res_cellOb Tryz.results85 rfl (bk_set9 HD9.out.z _ _ _ _ _ _ _ _ _) rfl) rfl ⟨.inr ⟨HB.out, rfl⟩, below_set9 HD9.out.b (Nat.le_refl _) _ _ _ _ _ _ _ _ _⟩
          · have HB := Lib.hid (HBAD.out (.inr (fun h => hp h.1)))
            have hzn : (z != 0) = true := by rw [bne_iff_ne]; exact hz
            clear hp hz
            cases bad8 with
            | true =>
              go_wp2_with fail
              refine bodyPost_ret (res_cellOb Tryz.results85 rfl (bk_set9 HD9.out.z _ _ _ _ _ _ _ _ _) rfl) rfl ⟨.inr ⟨HB.out, rfl⟩, below_set9 HD9.out.b (Nat.le_refl _) _ _ _ _ _ _ _ _ _⟩
            | false =>
              go_wp2_with fail
              refine bodyPost_ret (res_cellOb Tryz.results85 rfl (bk_set9 HD9.out.z _ _ _ _ _ _ _ _ _) rfl) rfl ⟨.inr ⟨HB.out, rfl⟩, below_set9 HD9.out.b (Nat.le_refl _) _ _ _ _ _ _ _ _ _⟩
        | false =>
          have hjr : j + 1 ≤ 1000001 := by have h1 := hF.out rfl; have h2 := HLN.out _ HL4.out; omega
          obtain ⟨⟨⟨p1, p2⟩, rc, bc⟩, hqc⟩ : ∃ q, rg (rj, false) = q := ⟨_, rfl⟩
          have hlc := rg_len (rj, false)
          rw [hqc] at hlc
          simp only at hlc
          have HST := Lib.hid (rD_step hE.out hlt hqc)
          have HFA : Hid (Far (j + 1) rc bc r4.length) := hF.out.step rfl hqc (Nat.le_refl _)
          have HLc : Hid (rc.length ≤ r4.length) := by show _ ≤ _; have := hrl.out; omega
          have HC := Lib.hid (rdig7_any (w.heap.size + 1) rj false WX.drew hD.out.r (HLN.out _ HLj.out))
          rw [hqc] at HC
          simp only [digV] at HC
          obtain ⟨c0, c1, c2, c3, c4, c5, c6, c7, c8⟩ := hD.out.o.nine
          have HJ1 : Hid (j + 1 ≤ maxLen) := by show _ ≤ _; unfold maxLen; omega
          have HJ2 : Hid ((j + 1) * 16 ≤ 140737488355328) := by show _ ≤ _; omega
          have HON : Hid (∀ u ∈ dgC (p1, p2), u.oneCell' = true) := by intro u hu; simp [dgC] at hu; rcases hu with rfl | rfl <;> rfl
          clear hqc hlc hE hF hrl
          go_wp2_with fail
          go_region_law
            (first
              | (go_simp; go_at_call 125; refine HC.out.mono ?_; rintro e w2 ⟨rfl, hr2, hg2'⟩
                 have hg2 := (Gb.of_below (p := fun g => g = w.heap.size + 1) ((Below.refl WX.heap.size WX).drew)).trans hg2'
                 have HD2 := Lib.hid (hD.out.read hr2 hg2); have HA2 := Lib.hid (hA.out.gb hg2 (by omega)); have y5 := HD2.out.o.nine.2.2.2.2.2.1; have y5a := (HD2.out.o.alloc (.cells #[.int .u64 p1, .int .u64 p2] 30)).nine.2.2.2.2.2.1; have z2 : WX.heap.size ≤ w2.heap.size := hg2.size
                 clear hr2 hg2 hg2')
              | (refine step_append_apd (by rfl) (.tmp 78) (.tmp 81) 80 (by rfl) (w.heap.size + 1 + 1 + 1) 30 i0 _ 2 16 Tryz.underlying80 Hi.out Hz0.out Hz1.out Hz2.out rfl (by decide) Aj j cj (flat dgC es) (by rfl) (HA2.out.below ((Below.refl _ _).alloc (Nat.le_refl _) _)) _ (some ⟨w2.heap.size, 0, none⟩) 1 1 (dgC (p1, p2)) (by rfl) (Sl.of_bk (n := 1) (size := 2) (Bk.new w2 30 #[.int .u64 p1, .int .u64 p2]) rfl) HON.out HJ1.out HJ2.out (Nat.le_trans HD2.out.lt (Nat.le_of_lt (by simp))) ?_
                 intro A4 c4' w4 ha4 hb4 hn4 hm4
                 have HA4 := Lib.hid ha4
                 have HB4 : Hid (Below (w.heap.size + 3) w2 w4) := ((Below.refl (w.heap.size + 3) w2).alloc (by omega) _).trans hb4
                 have HD4 := Lib.hid (HD2.out.below HB4.out)
                 have y5 := HD4.out.o.nine.2.2.2.2.2.1
                 have f5 := HD4.out.o.free 5
                 clear ha4 hb4))
          all_goals
            have HA5 : Hid (Apd w4 (w.heap.size + 1 + 1 + 1) 30 2 A4 (j + 1) c4' (flat dgC (es ++ [((p1, p2) : Dig)]))) := by
              show Apd _ _ _ _ _ _ _ _
              rw [flat_append]; simpa [flat] using HA4.out
            have HD5 := Lib.hid (HD4.out.set 5 (.slice A4 (j + 1) c4'))
            clear c0 c1 c2 c3 c4 c5 c6 c7 c8
            go_wp2_with fail
            go_roundw
            case rel => exact ⟨j + 1, A4, c4', rc, bc, es ++ [((p1, p2) : Dig)], by go_num, hjr, hn4, hm4, HA5.out.setCell (a := ⟨w.heap.size + 1 + 1, 5, none⟩) (Nat.lt_succ_self _) _, HD5.out, HST.out, HLc.out, HFA.out⟩
            case measure => simp [intOf]; omega
      · have hlz : ¬ (j : Int) < (nn : Int) := by omega
        have HX := Lib.hid (rD_end hE.out (.inl (by omega)))
        clear hE hF
        have HPW : Hid (∀ d ∈ es, WfD d) := fun e he => by
          have h1 := (rD_ok nn (r4, bad4)).1
          rw [HX.out] at h1
          exact h1 e he
        have HDX := hD
        have HAX := hA
        clear hD hA
        obtain ⟨⟨ta, r6, bad6⟩, hq⟩ : ∃ q, rt (rj, bj) = q := ⟨_, rfl⟩
        have HC := Lib.hid (rtxt7_any (w.heap.size + 1) rj bj WX HDX.out.r (HLN.out _ HLj.out))
        have hl := rt_len (rj, bj)
        rw [hq] at HC hl
        have HQ6 := Lib.hid hq
        simp only at HC hl
        have HL6 : Hid (r6.length ≤ (toL s).length) := by have := HLj.out; show _ ≤ _; omega
        have HE6 := Lib.hid hl
        clear hq hl
        go_wp2_with fail
        refine HC.out.mono ?_
        rintro e v6 ⟨rfl, hr, hg⟩
        have HDv := Lib.hid (HDX.out.read hr hg)
        have HAv := Lib.hid (HAX.out.gb hg (by omega))
        clear hr hg HC HDX HAX x0 x1
        obtain ⟨y0, y1, y2, y3, y4, y5, y6, y7, y8⟩ := HDv.out.o.nine
        have f6 := HDv.out.o.free 6
        obtain ⟨W6, hW6⟩ : ∃ W, (v6.setCell ⟨w.heap.size + 1 + 1, 6, none⟩ (.string (ofL ta))) = W := ⟨_, rfl⟩
        have HD6 : Hid (DeSt w W6 #[.int .i64 3, .string ⟨#[]⟩, .slice none 0 0, .int .u64 d1, .int .u64 d2, .slice Aj j cj, .string (ofL ta), .int .i64 0, .string ⟨#[]⟩] r6 bad6) := by rw [← hW6]; exact (HDv.out.set 6 (.string (ofL ta)))
        clear HDv
        obtain ⟨c0, c1, c2, c3, c4, c5, c6, c7, c8⟩ := HD6.out.o.nine
        have HA6 := Lib.hid (HAv.out.setCell (a := ⟨w.heap.size + 1 + 1, 6, none⟩) (Nat.lt_succ_self _) (.string (ofL ta)))
        rw [hW6] at HA6
        clear HAv
        obtain ⟨⟨ti, r7, bad7⟩, hq⟩ : ∃ q, rn (r6, bad6) = q := ⟨_, rfl⟩
        have HC := Lib.hid (rnum7_any (w.heap.size + 1) r6 bad6 W6 HD6.out.r (HLN.out _ HL6.out))
        have hl := rn_len (r6, bad6)
        rw [hq] at HC hl
        have HQ7 := Lib.hid hq
        simp only at HC hl
        have HL7 : Hid (r7.length ≤ (toL s).length) := by have := HL6.out; show _ ≤ _; omega
        have HE7 := Lib.hid hl
        clear hq hl
        go_wp2_with fail
        refine HC.out.mono ?_
        rintro e v7 ⟨rfl, hr, hg⟩
        have HDv := Lib.hid (HD6.out.read hr hg)
        have HAv := Lib.hid (HA6.out.gb hg (by omega))
        clear hr hg HC HD6 HA6 hW6 c0 c1 c2 c3 c4 c5 c6 c7 c8 y0 y1 y2 y3 y4 y5 y6 y7 y8
        obtain ⟨y0, y1, y2, y3, y4, y5, y6, y7, y8⟩ := HDv.out.o.nine
        have f7 := HDv.out.o.free 7
        obtain ⟨W7, hW7⟩ : ∃ W, (v7.setCell ⟨w.heap.size + 1 + 1, 7, none⟩ (.int .i64 (ti : Int))) = W := ⟨_, rfl⟩
        have HD7 : Hid (DeSt w W7 #[.int .i64 3, .string ⟨#[]⟩, .slice none 0 0, .int .u64 d1, .int .u64 d2, .slice Aj j cj, .string (ofL ta), .int .i64 (ti : Int), .string ⟨#[]⟩] r7 bad7) := by rw [← hW7]; exact (HDv.out.set 7 (.int .i64 (ti : Int)))
        clear HDv
        obtain ⟨c0, c1, c2, c3, c4, c5, c6, c7, c8⟩ := HD7.out.o.nine
        have HA7 := Lib.hid (HAv.out.setCell (a := ⟨w.heap.size + 1 + 1, 7, none⟩) (Nat.lt_succ_self _) (.int .i64 (ti : Int)))
        rw [hW7] at HA7
        clear HAv
        obtain ⟨⟨tm, r8, bad8⟩, hq⟩ : ∃ q, rt (r7, bad7) = q := ⟨_, rfl⟩
        have HC := Lib.hid (rtxt7_any (w.heap.size + 1) r7 bad7 W7 HD7.out.r (HLN.out _ HL7.out))
        have hl := rt_len (r7, bad7)
        rw [hq] at HC hl
        have HQ8 := Lib.hid hq
        simp only at HC hl
        have HL8 : Hid (r8.length ≤ (toL s).length) := by have := HL7.out; show _ ≤ _; omega
        have HE8 := Lib.hid hl
        clear hq hl
        go_wp2_with fail
        refine HC.out.mono ?_
        rintro e v8 ⟨rfl, hr, hg⟩
        have HDv := Lib.hid (HD7.out.read hr hg)
        have HAv := Lib.hid (HA7.out.gb hg (by omega))
        clear hr hg HC HD7 HA7 hW7 c0 c1 c2 c3 c4 c5 c6 c7 c8 y0 y1 y2 y3 y4 y5 y6 y7 y8
        obtain ⟨y0, y1, y2, y3, y4, y5, y6, y7, y8⟩ := HDv.out.o.nine
        have f8 := HDv.out.o.free 8
        obtain ⟨W8, hW8⟩ : ∃ W, (v8.setCell ⟨w.heap.size + 1 + 1, 8, none⟩ (.string (ofL tm))) = W := ⟨_, rfl⟩
        have HD8 : Hid (DeSt w W8 #[.int .i64 3, .string ⟨#[]⟩, .slice none 0 0, .int .u64 d1, .int .u64 d2, .slice Aj j cj, .string (ofL ta), .int .i64 (ti : Int), .string (ofL tm)] r8 bad8) := by rw [← hW8]; exact (HDv.out.set 8 (.string (ofL tm)))
        clear HDv
        obtain ⟨c0, c1, c2, c3, c4, c5, c6, c7, c8⟩ := HD8.out.o.nine
        have HA8 := Lib.hid (HAv.out.setCell (a := ⟨w.heap.size + 1 + 1, 8, none⟩) (Nat.lt_succ_self _) (.string (ofL tm)))
        rw [hW8] at HA8
        clear HAv
        have HP : Hid (pz7 (toL s) = (⟨3, ⟨#[]⟩, [], (d1, d2), es, ofL ta, (ti : Int), ofL tm⟩, (r8, bad8))) := by
          show _ = _
          rw [HP0.out]
          simp only [HQ3.out, HQ4.out, HX.out, HQ6.out, HQ7.out, HQ8.out]
        have hla : (ofL ta).size ≤ 1000000 := by have h1 := HE6.out.2; have h2 := HLN.out _ HLj.out; rw [size_ofL]; omega
        have hlm : (ofL tm).size ≤ 1000000 := by have h1 := HE8.out.2; have h2 := HLN.out _ HL7.out; rw [size_ofL]; omega
        have hlt0 : ti ≤ 1099511627776 := HE7.out.2
        have HWD : Hid (WfD (d1, d2)) := HE3.out.2
        have HM : Hid (ObM W8 W8.heap.size ⟨3, ⟨#[]⟩, [], (d1, d2), es, ofL ta, (ti : Int), ofL tm⟩ ⟨none, 0, 0, Aj, j, cj⟩) := ⟨Sl.nil _ _ _ _, HA8.out.sl, Nat.le_refl _, Nat.zero_le _, hjc, hcm⟩
        have HCK := Lib.hid (encodeF7_any ⟨3, ⟨#[]⟩, [], (d1, d2), es, ofL ta, (ti : Int), ofL tm⟩ ⟨none, 0, 0, Aj, j, cj⟩ W8.heap.size W8 HM.out (Nat.le_refl _) ⟨HWD.out, HPW.out, hla, hlm, by show (0 : Int) ≤ (ti : Int); omega, by show (ti : Int) ≤ _; omega, (fun e h => by cases h), (fun e h => by cases h)⟩)
        obtain ⟨op, hop⟩ : ∃ op : Ob, op = ⟨3, ⟨#[]⟩, [], (d1, d2), es, ofL ta, (ti : Int), ofL tm⟩ := ⟨_, rfl⟩
        obtain ⟨osl, hosl⟩ : ∃ osl : Osl, osl = ⟨none, 0, 0, Aj, j, cj⟩ := ⟨_, rfl⟩
        have HOP := Lib.hid hop
        have HOS := Lib.hid hosl
        rw [← hop] at HP
        rw [← hop, ← hosl] at HM
        obtain ⟨bs, hbs⟩ : ∃ bs, ofL (encO op) = bs := ⟨_, rfl⟩
        have HBAD : Hid ((bad8 = true ∨ ¬ (OkO op ∧ bs = s)) → ∀ o', OkO o' → s ≠ ofL (encO o')) := fun h => by
          rcases h with h | h
          · have hp := HP.out
            rw [h] at hp; exact decE_bad hp
          · rw [← hbs] at h; exact decE_not HP.out h
        unfold En7 at HCK
        rw [← hop, hbs] at HCK
        have HBS := Lib.hid hbs
        obtain ⟨p, hp⟩ : ∃ p, OkO op = p := ⟨_, rfl⟩
        have HPE := Lib.hid hp
        rw [hp] at HBAD HCK
        rw [hop] at HCK
        simp only [obV, obC] at HCK
        clear c0 c1 c2 c3 c4 c5 c6 c7 c8
        obtain ⟨c0, c1, c2, c3, c4, c5, c6, c7, c8⟩ := HD8.out.o.nine
        obtain ⟨x0, x1, _, _⟩ := HD8.out.r.two
        clear hop hosl hbs hp HP0 HP
        go_wp2_with fail
        refine HCK.out.mono ?_
        rintro e w8 ⟨hq, hb8⟩
        have HD9 := Lib.hid (HD8.out.below (hb8.mono HD8.out.lt))
        have HM8 := Lib.hid ((HM.out.below hb8 (Nat.le_refl _)).more hb8.size)
        have HA9 := Lib.hid (HA8.out.below hb8)
        clear c0 c1 c2 c3 c4 c5 c6 c7 c8 y0 y1 y2 y3 y4 y5 y6 y7 y8 x0 x1 hb8 HCK hW8 HM
        obtain ⟨c0, c1, c2, c3, c4, c5, c6, c7, c8⟩ := HD9.out.o.nine
        obtain ⟨x0, x1, _, _⟩ := HD9.out.r.two
        obtain ⟨d0, d1', d2', d3, d4, d5, d6, d7, d8⟩ := HD9.out.z.nine
        have g0 := HD9.out.z.free 0; have g1 := HD9.out.z.free 1; have g2 := HD9.out.z.free 2; have g3 := HD9.out.z.free 3; have g4 := HD9.out.z.free 4; have g5 := HD9.out.z.free 5; have g6 := HD9.out.z.free 6; have g7 := HD9.out.z.free 7; have g8 := HD9.out.z.free 8
        have hne : w.heap.size ≠ w.heap.size + 1 + 1 := by omega
        rcases hq with ⟨hp, rfl⟩ | ⟨hp, z, hz, rfl⟩
        · cases bad8 with
          | true =>
            have HB := Lib.hid (HBAD.out (.inl (by trivial)))
            clear hp
            go_wp2_with fail
            refine bodyPost_ret (res_cellOb Tryz.results85 rfl (bk_set9 HD9.out.z _ _ _ _ _ _ _ _ _) rfl) rfl ⟨.inr ⟨HB.out, rfl⟩, below_set9 HD9.out.b (Nat.le_refl _) _ _ _ _ _ _ _ _ _⟩
          | false =>
            have l1 : (bs.toList != s.toList) = !(decide (bs = s)) := by rw [← str_dec]; rfl
            have l2 := str_dec bs s
            by_cases hbe : bs = s
            · rw [decide_eq_true hbe] at l1 l2
              have HOK := Lib.hid hp
              have HBE := Lib.hid hbe
              clear hp hbe
              go_wp2_with fail
              refine bodyPost_ret (res_cellOb Tryz.results85 rfl (bk_set9 HD9.out.z _ _ _ _ _ _ _ _ _) rfl) rfl ⟨.inl ⟨op, osl, by rw [HPE.out]; exact HOK.out, by rw [HBS.out]; exact HBE.out.symm, by rw [HOP.out, HOS.out]; rfl, ?_⟩, below_set9 HD9.out.b (Nat.le_refl _) _ _ _ _ _ _ _ _ _⟩
              rw [HOP.out, HOS.out]
              exact ⟨Sl.nil _ _ _ _, (HA9.out.set9 (by omega) _ _ _ _ _ _ _ _ _).sl, Nat.le_refl _, Nat.zero_le _, hjc, hcm⟩
            · rw [decide_eq_false hbe] at l1 l2
              have HB := Lib.hid (HBAD.out (.inr (fun h => hbe h.2)))
              clear hp hbe
              go_wp2_with fail
              refine bodyPost_ret (res_cellOb Tryz.results85 rfl (bk_set9 HD9.out.z _ _ _ _ _ _ _ _ _) rfl) rfl ⟨.inr ⟨HB.out, rfl⟩, below_set9 HD9.out.b (Nat.le_refl _) _ _ _ _ _ _ _ _ _⟩
        · have HB := Lib.hid (HBAD.out (.inr (fun h => hp h.1)))
          have hzn : (z != 0) = true := by rw [bne_iff_ne]; exact hz
          clear hp hz
          cases bad8 with
          | true =>
            go_wp2_with fail
            refine bodyPost_ret (res_cellOb Tryz.results85 rfl (bk_set9 HD9.out.z _ _ _ _ _ _ _ _ _) rfl) rfl ⟨.inr ⟨HB.out, rfl⟩, below_set9 HD9.out.b (Nat.le_refl _) _ _ _ _ _ _ _ _ _⟩
          | false =>
            go_wp2_with fail
            refine bodyPost_ret (res_cellOb Tryz.results85 rfl (bk_set9 HD9.out.z _ _ _ _ _ _ _ _ _) rfl) rfl ⟨.inr ⟨HB.out, rfl⟩, below_set9 HD9.out.b (Nat.le_refl _) _ _ _ _ _ _ _ _ _⟩
  · have HP0 := Lib.hid (pz7_other hq hk2 hk3)
    have hkz2 : ((k : Int) == 2) = false := by rw [beq_eq_false_iff_ne]; omega
    have hkz3 : ((k : Int) == 3) = false := by rw [beq_eq_false_iff_ne]; omega
    have HC2 : Hid (Calls Tryz.prog 123 #[.pointer (some ⟨w.heap.size + 1, 0, none⟩)] W1 (RzE (.int .i64 (k : Int)) (w.heap.size + 1) (r2, bad2) W1)) := HC1.out
    clear HC1 hq
    go_enter Tryz.func85, Tryz.ntmps85
    go_wp2_with fail
    rw [HW1.out]
    refine HC2.out.mono ?_
    rintro e v2 ⟨rfl, hr, hg⟩
    have HDv := Lib.hid (HD1.out.read hr hg)
    clear hr hg HC2 HD1 HW1
    obtain ⟨y0, y1, y2, y3, y4, y5, y6, y7, y8⟩ := HDv.out.o.nine
    have f0 := HDv.out.o.free 0
    obtain ⟨W2, hW2⟩ : ∃ W, (v2.setCell ⟨w.heap.size + 1 + 1, 0, none⟩ (.int .i64 (k : Int))) = W := ⟨_, rfl⟩
    have HD2 : Hid (DeSt w W2 #[.int .i64 (k : Int), .string ⟨#[]⟩, .slice none 0 0, .int .u64 0, .int .u64 0, .slice none 0 0, .string ⟨#[]⟩, .int .i64 0, .string ⟨#[]⟩] r2 bad2) := by rw [← hW2]; exact (HDv.out.set 0 (.int .i64 (k : Int)))
    clear HDv
    obtain ⟨c0, c1, c2, c3, c4, c5, c6, c7, c8⟩ := HD2.out.o.nine
    obtain ⟨⟨t, r3, bad3⟩, hq⟩ : ∃ q, rt (r2, bad2) = q := ⟨_, rfl⟩
    have HC := Lib.hid (rtxt7_any (w.heap.size + 1) r2 bad2 W2 HD2.out.r (HLN.out _ HL2.out))
    have hl := rt_len (r2, bad2)
    rw [hq] at HC hl
    have HQ3 := Lib.hid hq
    simp only at HC hl
    have HL3 : Hid (r3.length ≤ (toL s).length) := by have := HL2.out; show _ ≤ _; omega
    have HE3 := Lib.hid hl
    clear hq hl
    go_wp2_with fail
    refine HC.out.mono ?_
    rintro e v3 ⟨rfl, hr, hg⟩
    have HDv := Lib.hid (HD2.out.read hr hg)
    clear hr hg HC HD2 hW2 c0 c1 c2 c3 c4 c5 c6 c7 c8 y0 y1 y2 y3 y4 y5 y6 y7 y8
    obtain ⟨y0, y1, y2, y3, y4, y5, y6, y7, y8⟩ := HDv.out.o.nine
    have f1 := HDv.out.o.free 1
    obtain ⟨W3, hW3⟩ : ∃ W, (v3.setCell ⟨w.heap.size + 1 + 1, 1, none⟩ (.string (ofL t))) = W := ⟨_, rfl⟩
    have HD3 : Hid (DeSt w W3 #[.int .i64 (k : Int), .string (ofL t), .slice none 0 0, .int .u64 0, .int .u64 0, .slice none 0 0, .string ⟨#[]⟩, .int .i64 0, .string ⟨#[]⟩] r3 bad3) := by rw [← hW3]; exact (HDv.out.set 1 (.string (ofL t)))
    clear HDv
    obtain ⟨c0, c1, c2, c3, c4, c5, c6, c7, c8⟩ := HD3.out.o.nine
    have HP : Hid (pz7 (toL s) = (⟨(k : Int), ofL t, [], zD, [], ⟨#[]⟩, 0, ⟨#[]⟩⟩, (r3, bad3))) := by show _ = _; rw [HP0.out, HQ3.out]
    have HM : Hid (ObM W3 W3.heap.size ⟨(k : Int), ofL t, [], zD, [], ⟨#[]⟩, 0, ⟨#[]⟩⟩ ⟨none, 0, 0, none, 0, 0⟩) := ⟨Sl.nil _ _ _ _, Sl.nil _ _ _ _, Nat.le_refl _, Nat.zero_le _, Nat.le_refl _, Nat.zero_le _⟩
    have HCK := Lib.hid (encodeF7_any ⟨(k : Int), ofL t, [], zD, [], ⟨#[]⟩, 0, ⟨#[]⟩⟩ ⟨none, 0, 0, none, 0, 0⟩ W3.heap.size W3 HM.out (Nat.le_refl _) ⟨wf_zD, (fun d h => by cases h), Nat.zero_le _, Nat.zero_le _, Int.le_refl _, by show (0 : Int) ≤ _; omega, (fun e h => by cases h), (fun e h => by cases h)⟩)
    obtain ⟨op, hop⟩ : ∃ op : Ob, op = ⟨(k : Int), ofL t, [], zD, [], ⟨#[]⟩, 0, ⟨#[]⟩⟩ := ⟨_, rfl⟩
    obtain ⟨osl, hosl⟩ : ∃ osl : Osl, osl = ⟨none, 0, 0, none, 0, 0⟩ := ⟨_, rfl⟩
    have HOP := Lib.hid hop
    have HOS := Lib.hid hosl
    rw [← hop] at HP
    rw [← hop, ← hosl] at HM
    obtain ⟨bs, hbs⟩ : ∃ bs, ofL (encO op) = bs := ⟨_, rfl⟩
    have HBAD : Hid ((bad3 = true ∨ ¬ (OkO op ∧ bs = s)) → ∀ o', OkO o' → s ≠ ofL (encO o')) := fun h => by
      rcases h with h | h
      · have hp := HP.out
        rw [h] at hp; exact decE_bad hp
      · rw [← hbs] at h; exact decE_not HP.out h
    unfold En7 at HCK
    rw [← hop, hbs] at HCK
    have HBS := Lib.hid hbs
    obtain ⟨p, hp⟩ : ∃ p, OkO op = p := ⟨_, rfl⟩
    have HPE := Lib.hid hp
    rw [hp] at HBAD HCK
    rw [hop] at HCK
    simp only [obV, obC] at HCK
    clear c0 c1 c2 c3 c4 c5 c6 c7 c8
    obtain ⟨c0, c1, c2, c3, c4, c5, c6, c7, c8⟩ := HD3.out.o.nine
    obtain ⟨x0, x1, _, _⟩ := HD3.out.r.two
    clear hop hosl hbs hp HP0 HP
    go_wp2_with fail
    refine HCK.out.mono ?_
    rintro e w8 ⟨hq, hb8⟩
    have HD8 := Lib.hid (HD3.out.below (hb8.mono HD3.out.lt))
    have HM8 := Lib.hid ((HM.out.below hb8 (Nat.le_refl _)).more hb8.size)
    clear c0 c1 c2 c3 c4 c5 c6 c7 c8 y0 y1 y2 y3 y4 y5 y6 y7 y8 x0 x1 hb8 HCK hW3 HM
    obtain ⟨c0, c1, c2, c3, c4, c5, c6, c7, c8⟩ := HD8.out.o.nine
    obtain ⟨x0, x1, _, _⟩ := HD8.out.r.two
    obtain ⟨d0, d1', d2', d3, d4, d5, d6, d7, d8⟩ := HD8.out.z.nine
    have g0 := HD8.out.z.free 0; have g1 := HD8.out.z.free 1; have g2 := HD8.out.z.free 2; have g3 := HD8.out.z.free 3; have g4 := HD8.out.z.free 4; have g5 := HD8.out.z.free 5; have g6 := HD8.out.z.free 6; have g7 := HD8.out.z.free 7; have g8 := HD8.out.z.free 8
    have hne : w.heap.size ≠ w.heap.size + 1 + 1 := by omega
    rcases hq with ⟨hp, rfl⟩ | ⟨hp, z, hz, rfl⟩
    · cases bad3 with
      | true =>
        have HB := Lib.hid (HBAD.out (.inl (by trivial)))
        clear hp
        go_wp2_with fail
        refine bodyPost_ret (res_cellOb Tryz.results85 rfl (bk_set9 HD8.out.z _ _ _ _ _ _ _ _ _) rfl) rfl ⟨.inr ⟨HB.out, rfl⟩, below_set9 HD8.out.b (Nat.le_refl _) _ _ _ _ _ _ _ _ _⟩
      | false =>
        have l1 : (bs.toList != s.toList) = !(decide (bs = s)) := by rw [← str_dec]; rfl
        have l2 := str_dec bs s
        by_cases hbe : bs = s
        · rw [decide_eq_true hbe] at l1 l2
          have HOK := Lib.hid hp
          have HBE := Lib.hid hbe
          clear hp hbe
          go_wp2_with fail
          refine bodyPost_ret (res_cellOb Tryz.results85 rfl (bk_set9 HD8.out.z _ _ _ _ _ _ _ _ _) rfl) rfl ⟨.inl ⟨op, osl, by rw [HPE.out]; exact HOK.out, by rw [HBS.out]; exact HBE.out.symm, by rw [HOP.out, HOS.out]; rfl, ?_⟩, below_set9 HD8.out.b (Nat.le_refl _) _ _ _ _ _ _ _ _ _⟩
          rw [HOP.out, HOS.out]
          exact ⟨Sl.nil _ _ _ _, Sl.nil _ _ _ _, Nat.le_refl _, Nat.zero_le _, Nat.le_refl _, Nat.zero_le _⟩
        · rw [decide_eq_false hbe] at l1 l2
          have HB := Lib.hid (HBAD.out (.inr (fun h => hbe h.2)))
          clear hp hbe
          go_wp2_with fail
          refine bodyPost_ret (res_cellOb Tryz.results85 rfl (bk_set9 HD8.out.z _ _ _ _ _ _ _ _ _) rfl) rfl ⟨.inr ⟨HB.out, rfl⟩, below_set9 HD8.out.b (Nat.le_refl _) _ _ _ _ _ _ _ _ _⟩
    · have HB := Lib.hid (HBAD.out (.inr (fun h => hp h.1)))
      have hzn : (z != 0) = true := by rw [bne_iff_ne]; exact hz
      clear hp hz
      cases bad3 with
      | true =>
        go_wp2_with fail
        refine bodyPost_ret (res_cellOb Tryz.results85 rfl (bk_set9 HD8.out.z _ _ _ _ _ _ _ _ _) rfl) rfl ⟨.inr ⟨HB.out, rfl⟩, below_set9 HD8.out.b (Nat.le_refl _) _ _ _ _ _ _ _ _ _⟩
      | false =>
        go_wp2_with fail
        refine bodyPost_ret (res_cellOb Tryz.results85 rfl (bk_set9 HD8.out.z _ _ _ _ _ _ _ _ _) rfl) rfl ⟨.inr ⟨HB.out, rfl⟩, below_set9 HD8.out.b (Nat.le_refl _) _ _ _ _ _ _ _ _ _⟩
end Go.Proofs.YtmdhlkkekidknaaGreatDoor

namespace Go.Proofs.YtmdhlkkekidknaaGreatDoor
open Go.RowKit

theorem okO_obB {o : Ob} (h : OkO o) : ObB o := by
  have hz : (0 : Nat) ≤ 1000000 := by omega
  cases h.f with
  | blob k e c d =>
    refine ⟨by rw [c.tree]; exact wf_zD, by rw [c.pars]; (intro d h; cases h), by rw [c.auth]; exact hz, by rw [c.msg]; exact hz, by rw [c.time]; omega, by rw [c.time]; omega, by rw [e]; (intro d h; cases h), by rw [e]; (intro d h; cases h)⟩
  | tree k d c e =>
    refine ⟨by rw [c.tree]; exact wf_zD, by rw [c.pars]; (intro d h; cases h), by rw [c.auth]; exact hz, by rw [c.msg]; exact hz, by rw [c.time]; omega, by rw [c.time]; omega, fun x hx => ?_, fun x hx => (e.all x hx).dg⟩
    have := nameB_size (e.all x hx).nm
    omega
  | commit k d e c =>
    refine ⟨c.wf, c.pars.wf, by have := nameB_size c.auth; omega, by have := c.msg; omega, c.t0, c.t1, by rw [e]; (intro d h; cases h), by rw [e]; (intro d h; cases h)⟩
def Gr8E (p : List Itm) (d : Dig) (w : World) (e : Ending) (w' : World) : Prop :=
  ((∃ o s, getP p d = some o ∧ OkO o ∧ e = .returned (.tuple #[obV o s, .int .i64 0]) ∧ ObM w' w'.heap.size o s) ∨ (getP p d = none ∧ e = .returned (.tuple #[obV zOb zOs, .int .i64 8]))) ∧ Below w.heap.size w w'
set_option maxRecDepth 100000 in
set_option maxHeartbeats 4000000 in
theorem get8_any (A : Option Addr) (n c B : Nat) (p : List Itm) (d : Dig) (w : World) (h0 : Sl w B 3 A n (flat itC p)) (hB : B ≤ w.heap.size) (hn : n ≤ 1000000) (hp : PlOk p) :
    Calls Tryz.prog 74 #[.slice A n c, digV d] w (Gr8E p d w) := by
  have HP := Lib.hid hp
  have HL := Lib.hid (h0.len itC_len (by omega))
  clear hp
  obtain ⟨d1, d2⟩ := d
  obtain ⟨W, hW⟩ : ∃ W, (w.alloc (.cells #[.int .u64 d1, .int .u64 d2] 30)).alloc (.cells #[.int .i64 0, .string ⟨#[]⟩, .slice none 0 0, .int .u64 0, .int .u64 0, .slice none 0 0, .string ⟨#[]⟩, .int .i64 0, .string ⟨#[]⟩] 82) = W := ⟨_, rfl⟩
  have HB0 : Hid (Below w.heap.size w W) := by rw [← hW]; exact ((Below.refl _ w).alloc (Nat.le_refl _) _).alloc (by simp) _
  have HK : Hid (Bk W w.heap.size 30 #[.int .u64 d1, .int .u64 d2]) := by rw [← hW]; exact (Bk.new w _ _).alloc _
  have HZ : Hid (Bk W (w.heap.size + 1) 82 #[.int .i64 0, .string ⟨#[]⟩, .slice none 0 0, .int .u64 0, .int .u64 0, .slice none 0 0, .string ⟨#[]⟩, .int .i64 0, .string ⟨#[]⟩]) := by
    rw [← hW]
    have := Bk.new (w.alloc (.cells #[.int .u64 d1, .int .u64 d2] 30)) 82 #[.int .i64 0, .string ⟨#[]⟩, .slice none 0 0, .int .u64 0, .int .u64 0, .slice none 0 0, .string ⟨#[]⟩, .int .i64 0, .string ⟨#[]⟩]
    rw [World.size_alloc] at this; exact this
  have HC := Lib.hid (find8_any A n c B p (d1, d2) W (h0.below HB0.out hB) (Nat.le_trans hB HB0.out.size) hn HP.out.asc)
  have H0 := Lib.hid h0
  clear h0
  have zW : w.heap.size + 2 = W.heap.size := by rw [← hW]; simp
  have HW := Lib.hid hW
  clear hW
  unfold FiE at HC
  simp only [digV] at HC ⊢
  obtain ⟨x0, x1, _, _⟩ := HK.out.two
  cases hf : findP p (d1, d2) with
  | none =>
    have HN : Hid (getP p (d1, d2) = none) := getP_none.2 hf
    have hfi : fiD p (d1, d2) = -1 := by unfold fiD; rw [hf]; rfl
    rw [hfi] at HC
    clear hf hfi
    go_enter Tryz.func74, Tryz.ntmps74
    go_wp2_with fail
    rw [HW.out]
    refine HC.out.mono ?_
    rintro e w2 ⟨rfl, hb⟩
    have HZ2 := Lib.hid (HZ.out.below hb (by omega))
    have HB2 : Hid (Below w.heap.size w w2) := HB0.out.trans (hb.mono HB0.out.size)
    obtain ⟨z0, z1, z2, z3, z4, z5, z6, z7, z8⟩ := HZ2.out.nine
    have g0 := HZ2.out.free 0; have g1 := HZ2.out.free 1; have g2 := HZ2.out.free 2; have g3 := HZ2.out.free 3; have g4 := HZ2.out.free 4; have g5 := HZ2.out.free 5; have g6 := HZ2.out.free 6; have g7 := HZ2.out.free 7; have g8 := HZ2.out.free 8
    clear hb HC
    go_wp2_with fail
    refine bodyPost_ret (res_cellOb Tryz.results74 rfl (bk_set9 HZ2.out _ _ _ _ _ _ _ _ _) rfl) rfl ⟨.inr ⟨HN.out, rfl⟩, below_set9 HB2.out (by omega) _ _ _ _ _ _ _ _ _⟩
  | some b =>
    have HM : Hid (((d1, d2), b) ∈ p) := (findP_some HP.out.asc).1 hf
    obtain ⟨o, ho, hbe⟩ := HP.out.enc _ HM.out
    simp only at hbe
    have HG : Hid (getP p (d1, d2) = some o) := (getP_some HP.out).2 ⟨ho, by rw [← hbe]; exact HM.out⟩
    have HO := Lib.hid ho
    have HI : Hid (∃ i, p[atD p (d1, d2)]? = some i ∧ i.2 = b ∧ atD p (d1, d2) < n) := by
      unfold findP at hf
      cases hi : p[atD p (d1, d2)]? with
      | none => rw [hi] at hf; cases hf
      | some i =>
        rw [hi] at hf
        simp only at hf
        split at hf
        · exact ⟨i, rfl, by cases hf; rfl, by rw [← HL.out]; exact (List.getElem?_eq_some_iff.1 hi).1⟩
        · cases hf
    obtain ⟨i, hi, hib, hin⟩ := HI.out
    obtain ⟨m, hm⟩ : ∃ m, atD p (d1, d2) = m := ⟨_, rfl⟩
    have hfi : fiD p (d1, d2) = (m : Int) := by unfold fiD; rw [hf, hm]; rfl
    rw [hfi] at HC
    rw [hm] at hi hin
    clear hf ho hm hfi
    go_enter Tryz.func74, Tryz.ntmps74
    go_wp2_with fail
    rw [HW.out]
    refine HC.out.mono ?_
    rintro e w2 ⟨rfl, hb⟩
    have HB2 : Hid (Below w.heap.size w w2) := HB0.out.trans (hb.mono HB0.out.size)
    have HZ2 := Lib.hid (HZ.out.below hb (by omega))
    obtain ⟨bb, off, i', rfl, hbB, hx, y0, y1, y2⟩ := (H0.out.below HB2.out hB).it hin
    rw [hi] at hx
    obtain rfl := Option.some.inj hx
    rw [hib, hbe] at y2
    have HD := Lib.hid (decode7_any (ofL (encO o)) w2 (by rw [size_ofL]; have := HO.out.len; omega))
    unfold DecE at HD
    obtain ⟨sb, hsb⟩ : ∃ sb, ofL (encO o) = sb := ⟨_, rfl⟩
    rw [hsb] at HD y2
    have HSB := Lib.hid hsb
    clear hsb
    have zw2 := hb.size
    clear hb HC hi hib hbe hx
    have hmn : (m : Int) < (n : Int) := by omega
    go_wp2_with fail
    refine HD.out.mono ?_
    rintro e w3 ⟨hq, hb3⟩
    rcases hq with ⟨o', s, ho', he', rfl, hm3⟩ | ⟨hno, _⟩
    case inr => exact absurd HSB.out.symm (hno o HO.out)
    have hoo : o' = o := by rw [← decO_enc ho', ← he', ← HSB.out, decO_enc HO.out]
    subst hoo
    clear ho' he'
    have HZ3 := Lib.hid (HZ2.out.below hb3 (by omega))
    have HB3 : Hid (Below w.heap.size w w3) := HB2.out.trans (hb3.mono HB2.out.size)
    simp only [obV, obC]
    obtain ⟨W3, hW3⟩ : ∃ W3, w3.alloc (.cells #[.int .i64 o'.kind, .string o'.data, .slice s.eA s.en s.ec, .int .u64 o'.tree.1, .int .u64 o'.tree.2, .slice s.pA s.pn s.pc, .string o'.auth, .int .i64 o'.time, .string o'.msg] 82) = W3 := ⟨_, rfl⟩
    have HBa : Hid (Below w3.heap.size w3 W3) := by rw [← hW3]; exact (Below.refl _ w3).alloc (Nat.le_refl _) _
    have HKa : Hid (Bk W3 w3.heap.size 82 #[.int .i64 o'.kind, .string o'.data, .slice s.eA s.en s.ec, .int .u64 o'.tree.1, .int .u64 o'.tree.2, .slice s.pA s.pn s.pc, .string o'.auth, .int .i64 o'.time, .string o'.msg]) := by rw [← hW3]; exact Bk.new w3 _ _
    have HM3 : Hid (ObM W3 W3.heap.size o' s) := (hm3.below HBa.out (Nat.le_refl _)).more HBa.out.size
    have HZ3 := Lib.hid (HZ3.out.below HBa.out (by have := hb3.size; omega))
    have HB3 : Hid (Below w.heap.size w W3) := HB3.out.trans (HBa.out.mono HB3.out.size)
    have HW3 := Lib.hid hW3
    obtain ⟨q0, q1, q2, q3, q4, q5, q6, q7, q8⟩ := HKa.out.nine
    rw [← hW3] at q0 q1 q2 q3 q4 q5 q6 q7 q8
    clear hW3
    obtain ⟨z0, z1, z2, z3, z4, z5, z6, z7, z8⟩ := HZ3.out.nine
    have g0 := HZ3.out.free 0; have g1 := HZ3.out.free 1; have g2 := HZ3.out.free 2; have g3 := HZ3.out.free 3; have g4 := HZ3.out.free 4; have g5 := HZ3.out.free 5; have g6 := HZ3.out.free 6; have g7 := HZ3.out.free 7; have g8 := HZ3.out.free 8
    rw [← HW3.out] at z0 z1 z2 z3 z4 z5 z6 z7 z8 g0 g1 g2 g3 g4 g5 g6 g7 g8
    clear hb3 hm3 HD
    go_wp2_with fail
    rw [HW3.out]
    refine bodyPost_ret (res_cellOb Tryz.results74 rfl (bk_set9 HZ3.out _ _ _ _ _ _ _ _ _) rfl) rfl ⟨.inl ⟨o', s, HG.out, HO.out, rfl, ?_⟩, below_set9 HB3.out (by omega) _ _ _ _ _ _ _ _ _⟩
    have := HM3.out.zero (t := 82) HO.out HZ3.out (fun k hk => bl_app9 _ W3 (.int .i64 o'.kind) (.string o'.data) (.slice s.eA s.en s.ec) (.int .u64 o'.tree.1) (.int .u64 o'.tree.2) (.slice s.pA s.pn s.pc) (.string o'.auth) (.int .i64 o'.time) (.string o'.msg) k hk)
    simpa using this
set_option maxRecDepth 100000 in
set_option maxHeartbeats 4000000 in
theorem put8_any (A : Option Addr) (n c B : Nat) (p : List Itm) (o : Ob) (s : Osl) (w : World) (h0 : Sl w B 3 A n (flat itC p)) (hm : ObM w B o s) (hB : B ≤ w.heap.size) (hnc : n ≤ c) (hcm : c ≤ maxLen) (hn : n ≤ 900000) (ha : AscI p) (ho : OkO o) :
    Calls Tryz.prog 96 #[.slice A n c, obV o s] w (PuE A c p o w) := by
  have HO := Lib.hid ho; have HAS := Lib.hid ha; have HCM := Lib.hid hcm; have HNC := Lib.hid hnc; have HNN := Lib.hid hn
  obtain ⟨W, hW⟩ : ∃ W, (w.alloc (.cells (obC o s) 82)).alloc (.cells #[.int .u64 0, .int .u64 0] 30) = W := ⟨_, rfl⟩
  have HB0 : Hid (Below w.heap.size w W) := by rw [← hW]; exact ((Below.refl _ w).alloc (Nat.le_refl _) _).alloc (by simp) _
  have HK : Hid (Bk W w.heap.size 82 (obC o s)) := by rw [← hW]; exact (Bk.new w _ _).alloc _
  have HD : Hid (Bk W (w.heap.size + 1) 30 #[.int .u64 0, .int .u64 0]) := by
    rw [← hW]
    have := Bk.new (w.alloc (.cells (obC o s) 82)) 30 #[.int .u64 0, .int .u64 0]
    rw [World.size_alloc] at this; exact this
  have zW : w.heap.size + 2 = W.heap.size := by rw [← hW]; simp
  have HE := Lib.hid (encodeF7_any o s B W (hm.below HB0.out hB) (by omega) (okO_obB ho))
  have H0 := Lib.hid h0
  have hsz : (ofL (encO o)).size ≤ maxLen := by rw [size_ofL]; have := ho.len; unfold maxLen; omega
  have HOF := Lib.hid (fun w => rof_any (ofL (encO o)) w hsz)
  have HDG : Hid (ofB (toL (ofL (encO o))) = dgO o) := by show _ = _; rw [toL_ofL]; rfl
  unfold OfEnd at HOF
  rw [HDG.out] at HOF
  have HPP : Hid (putP p o = insP p (dgO o, ofL (encO o))) := rfl
  unfold En7 EnP at HE
  simp only [obV, obC] at HE hW HK ⊢
  obtain ⟨sb, hsb⟩ : ∃ sb, ofL (encO o) = sb := ⟨_, rfl⟩
  rw [hsb] at HE HOF HPP
  obtain ⟨⟨d1, d2⟩, hdd⟩ : ∃ d, dgO o = d := ⟨_, rfl⟩
  unfold PuE
  rw [hdd] at HOF HPP ⊢
  rw [HPP.out]
  simp only [digV] at HOF ⊢
  obtain ⟨c0, c1, c2, c3, c4, c5, c6, c7, c8⟩ := HK.out.nine
  have HW := Lib.hid hW
  clear h0 hm ho ha hcm hn hsb hdd HDG hsz hW hnc
  go_enter Tryz.func96, Tryz.ntmps96
  go_wp2_with fail
  rw [HW.out]
  go_wp2_with fail
  refine HE.out.mono ?_
  rintro e w2 ⟨hq0, hb⟩
  rcases hq0 with ⟨_, rfl⟩ | ⟨hno, _⟩
  case inr => exact absurd HO.out hno
  have HB2 : Hid (Below w.heap.size w w2) := HB0.out.trans (hb.mono HB0.out.size)
  have HD2 := Lib.hid (HD.out.below hb (by omega))
  have z2 : w.heap.size + 2 ≤ w2.heap.size := by have := hb.size; omega
  clear hb HE c0 c1 c2 c3 c4 c5 c6 c7 c8
  go_wp2_with fail
  refine (HOF.out _).mono ?_
  rintro e w3 ⟨rfl, hb⟩
  have HB3 : Hid (Below w.heap.size w w3) := HB2.out.trans (hb.mono HB2.out.size)
  have HD3 := Lib.hid (HD2.out.below hb (by omega))
  have z3 : w.heap.size + 2 ≤ w3.heap.size := by have := hb.size; omega
  obtain ⟨W3, hW3⟩ : ∃ W, w3.alloc (.cells #[.int .u64 d1, .int .u64 d2] 30) = W := ⟨_, rfl⟩
  have HBW : Hid (Below w3.heap.size w3 W3) := by rw [← hW3]; exact (Below.refl _ w3).alloc (Nat.le_refl _) _
  have HG3 : Hid (Bk W3 w3.heap.size 30 #[.int .u64 d1, .int .u64 d2]) := by rw [← hW3]; exact Bk.new w3 _ _
  have HD3' := Lib.hid (HD3.out.below HBW.out (by omega))
  have HB3' : Hid (Below w.heap.size w W3) := HB3.out.trans (HBW.out.mono HB3.out.size)
  have zW3 : w3.heap.size < W3.heap.size := HG3.out.lt
  have HI := Lib.hid (insert8_any A n c B p ((d1, d2), sb) W3 (H0.out.below HB3'.out hB) (by omega) HNC.out HCM.out HNN.out HAS.out)
  unfold InpE at HI
  simp only [itV] at HI
  obtain ⟨x0, x1, _, _⟩ := HG3.out.two
  clear hb
  go_wp2_with fail
  refine HI.out.mono ?_
  rintro e w4 ⟨hq, hb⟩
  have HB4 : Hid (Below w.heap.size w w4) := HB3'.out.trans (hb.mono HB3'.out.size)
  have HD4 := Lib.hid (HD3'.out.below hb (by omega))
  have HG4 := Lib.hid (HG3.out.below hb zW3)
  have z4 : w3.heap.size < w4.heap.size := Nat.lt_of_lt_of_le zW3 hb.size
  have g0 := HD4.out.free 0; have g1 := HD4.out.free 1
  obtain ⟨y0, y1, _, _⟩ := HD4.out.two
  obtain ⟨x0, x1, _, _⟩ := HG4.out.two
  clear hb HI hW3
  rcases hq with ⟨q, A', c', h1, rfl, h2, h3, h4, h5⟩ | ⟨h1, rfl⟩
  · have HQ := Lib.hid h1; have HS := Lib.hid h2; have H3 := Lib.hid h3; have H4 := Lib.hid h4; have H5 := Lib.hid h5
    clear h1 h2 h3 h4 h5
    go_wp2_with fail
    go_region
    go_wp2_with fail
    refine bodyPost_ret (res_pcp Tryz.results96 rfl rfl ((HD4.out.set2 (.int .u64 d1) (.int .u64 d2)).drew) rfl) rfl ⟨.inl ⟨q, A', c', HQ.out, rfl, ?_, H3.out, H4.out, ?_⟩, (below_set2 HB4.out (by omega) _ _).drew⟩
    · have := HS.out.ne (b := w.heap.size + 1) (HS.out.dgbox HD4.out) (fun k hk => (Below.heap_setCell (w4.setCell ⟨w.heap.size + 1, 0, none⟩ (.int .u64 d1)) ⟨w.heap.size + 1, 1, none⟩ (.int .u64 d2) k hk).trans (Below.heap_setCell w4 ⟨w.heap.size + 1, 0, none⟩ (.int .u64 d1) k hk))
      simpa using this.drew
    · rcases H5.out with h | h
      · exact .inl h
      · exact .inr (ownsRow_bk (ownsRow_bk (ownsRow_low h (by omega)) HD4.out (by decide) 0 _) (HD4.out.set 0 _) (by decide) 1 _).drew
  · have HQ := Lib.hid h1
    clear h1
    go_wp2_with fail
    refine bodyPost_ret (res_pcp Tryz.results96 rfl rfl (HD4.out.set2 _ _) rfl) rfl ⟨.inr ⟨HQ.out, rfl⟩, below_set2 HB4.out (by omega) _ _⟩
end Go.Proofs.YtmdhlkkekidknaaGreatDoor

namespace Go.Proofs.YtmdhlkkekidknaaGreatDoor
open Go.RowKit Go.Maps

def upB : Option ByteArray → ByteArray → Bool
  | none, _ => true
  | some q, s => less q s
def tchk : Option ByteArray → List Fl → Int
  | _, [] => 0
  | p, f :: r => if pathB f.1 = true then (if upB p f.1 = true then tchk (some f.1) r else 10) else 6
def prevT (fs : List Fl) (k : Nat) : Option ByteArray := if k = 0 then none else (fs[k - 1]?).map Prod.fst
theorem tchk_at {fs : List Fl} {k : Nat} {f : Fl} (h : fs[k]? = some f) : tchk (prevT fs k) (fs.drop k) = if pathB f.1 = true then (if upB (prevT fs k) f.1 = true then tchk (prevT fs (k + 1)) (fs.drop (k + 1)) else 10) else 6 := by
  have hp : prevT fs (k + 1) = some f.1 := by unfold prevT; rw [if_neg (by omega), Nat.add_sub_cancel, h]; rfl
  rw [List.drop_eq_getElem_cons (List.getElem?_eq_some_iff.1 h).1, (List.getElem?_eq_some_iff.1 h).2, tchk, hp]
def dirAt (ps : List ByteArray) (s : ByteArray) (k : Nat) : Bool := decide ((bl s)[k]? = some 47) && memB ps (s.extract 0 k)
def DirE (fs : List Fl) : Prop := ∃ f ∈ fs, ∃ j, j < f.1.size ∧ dirAt (fs.map Prod.fst) f.1 j = true
def TckR (fs : List Fl) (err : Int) : Prop :=
  (200 < fs.length ∧ err = 4) ∨ (fs.length ≤ 200 ∧ tchk none fs ≠ 0 ∧ err = tchk none fs) ∨ (fs.length ≤ 200 ∧ tchk none fs = 0 ∧ ((DirE fs ∧ err = 7) ∨ (¬ DirE fs ∧ err = 0)))
theorem TckR.same {fs : List Fl} {e f : Int} (h : TckR fs e) (g : TckR fs f) : e = f := by
  rcases h with ⟨h1, h2⟩ | ⟨h1, h2, h3⟩ | ⟨h1, h2, h3⟩
  · rcases g with ⟨_, g2⟩ | ⟨g1, _⟩ | ⟨g1, _⟩
    · rw [h2, g2]
    · omega
    · omega
  · rcases g with ⟨g1, _⟩ | ⟨_, _, g3⟩ | ⟨_, g2, _⟩
    · omega
    · rw [h3, g3]
    · exact absurd g2 h2
  · rcases g with ⟨g1, _⟩ | ⟨_, g2, _⟩ | ⟨_, _, g3⟩
    · omega
    · exact absurd h2 g2
    · rcases h3 with ⟨h3, h4⟩ | ⟨h3, h4⟩
      · rcases g3 with ⟨_, g4⟩ | ⟨g3, _⟩
        · rw [h4, g4]
        · exact absurd h3 g3
      · rcases g3 with ⟨g3, _⟩ | ⟨_, g4⟩
        · exact absurd g3 h3
        · rw [h4, g4]

set_option maxRecDepth 100000 in
set_option maxHeartbeats 8000000 in
theorem tcheck_any (A : Option Addr) (n c B : Nat) (fs : List Fl) (w : World) (h0 : Sl w B 2 A n (flat flC fs)) (hB : B ≤ w.heap.size) (hn : n ≤ 1000000) (hsz : ∀ f ∈ fs, f.1.size ≤ 1000000 ∧ f.2.size ≤ 60000) :
    Calls Tryz.prog 22 #[.slice A n c] w fun e w' => ∃ err, e = .returned (.int .i64 err) ∧ TckR fs err ∧ Below w.heap.size w w' := by
  have HL := Lib.hid (h0.len flC_len (by omega))
  have H0 := Lib.hid h0; have HSZ := Lib.hid hsz
  clear h0 hsz
  have hmm := @run_makeMap Tryz.prog
  have hzz := Tryz.zeroValue4
  go_enter Tryz.func22, Tryz.ntmps22
  by_cases hbig : (200 : Int) < (n : Int)
  · have HE : Hid (TckR fs 4) := .inl ⟨by rw [HL.out]; omega, rfl⟩
    go_wp2_with fail
    go_ret
    exact ⟨4, rfl, HE.out, Below.refl _ _⟩
  have hsm : n ≤ 200 := by omega
  have HM0 : Hid (Rm (w.alloc (.map #[] 0)) Tryz.prog 9 w.heap.size 0 (pG ((fs.take 0).map Prod.fst))) := by
    show Rm _ _ _ _ _ (pG []); rw [pG_nil]; exact Rm.made w Tryz.prog 9
  obtain ⟨r, hr⟩ : ∃ r, tchk none fs = r := ⟨_, rfl⟩
  have HR := Lib.hid hr
  clear hr
  go_wp2_with fail
  go_loopw [15] (fun i wr => ∃ k : Nat, k ≤ n ∧ i = .int .i64 k ∧ Hid (Rm wr Tryz.prog 9 w.heap.size k (pG ((fs.take k).map Prod.fst))) ∧ Hid (r = tchk (prevT fs k) (fs.drop k)) ∧ Hid (Below w.heap.size w wr) ∧ w.heap.size < wr.heap.size) (fun i _ => n - (intOf i).toNat)
  case atStart => exact ⟨0, Nat.zero_le _, rfl, HM0.out, HR.out.symm, (Below.refl _ w).alloc (Nat.le_refl _) _, by simp⟩
  case round =>
    obtain ⟨k, hk, rfl, hM, hC, hBel, hwz⟩ := hrel
    by_cases hlt : k < n
    · obtain ⟨b, off, f, rfl, hbB, hf, y0, y1⟩ := (H0.out.below hBel.out hB).fl hlt
      have hlz : (k : Int) < (n : Int) := by omega
      have HF := Lib.hid hf
      have hfs := HSZ.out f (List.mem_of_getElem? hf)
      have hfm : f.1.size ≤ maxLen := by unfold maxLen; omega
      have HC := hC
      rw [tchk_at hf] at HC
      obtain ⟨W2, hW2⟩ : ∃ W2, wr.alloc (.cells #[.string f.1, .string f.2] 68) = W2 := ⟨_, rfl⟩
      have HK2 : Hid (Bk W2 wr.heap.size 68 #[.string f.1, .string f.2]) := by rw [← hW2]; exact Bk.new wr _ _
      have zW2 : W2.heap.size = wr.heap.size + 1 := by rw [← hW2]; simp
      have HB2 : Hid (Below wr.heap.size wr W2) := by rw [← hW2]; exact (Below.refl _ wr).alloc (Nat.le_refl _) _
      have HPT := Lib.hid (isPath_any f.1 W2 hfm)
      have x0 := HK2.out.cell 0
      simp at x0
      have HTK := Lib.hid (take_snoc hf)
      clear hf
      go_wp2_with (go_at_call 48; refine HPT.out.mono ?_; rintro e w3 ⟨rfl, hb3⟩; refine halt_ ?_)
      refine unhalt ?_
      have HB3 : Hid (Below wr.heap.size wr w3) := HB2.out.trans (hb3.mono (by omega))
      have HK3 := Lib.hid (HK2.out.below hb3 (by omega))
      have hz3 := hb3.size
      have x0 := HK3.out.cell 0; have x1 := HK3.out.cell 1
      simp at x0 x1
      clear hb3 HPT hW2
      cases hp : pathB f.1 with
      | false =>
        have HE : Hid (TckR fs 6) := .inr (.inl ⟨by rw [HL.out]; omega, by rw [HR.out, HC.out, hp]; simp, by rw [HR.out, HC.out, hp]; simp⟩)
        clear hp
        go_wp2_with fail
        go_ret
        exact ⟨6, rfl, HE.out, hBel.out.trans (HB3.out.mono (by omega))⟩
      | true =>
        rw [hp, if_pos rfl] at HC
        have HBL := Lib.hid (blob_any f.2 w3)
        clear hp
        go_wp2_with (go_at_call 56; refine HBL.out.mono ?_; rintro e w4 ⟨rfl, hb4⟩; refine halt_ ?_)
        refine unhalt ?_
        have HOC := Lib.hid (ocheck_any f.2 w4 hfs.2)
        have HK4 := Lib.hid (HK3.out.below hb4 (by omega))
        have HB4 : Hid (Below wr.heap.size wr w4) := HB3.out.trans (hb4.mono (by omega))
        have hz4 := hb4.size
        clear hb4 HBL x0 x1
        go_wp2_with (go_at_call 55; refine HOC.out.mono ?_; rintro e w5 ⟨rfl, hb5⟩; refine halt_ ?_)
        refine unhalt ?_
        have HK5 := Lib.hid (HK4.out.below hb5 (by omega))
        have HB5 : Hid (Below wr.heap.size wr w5) := HB4.out.trans (hb5.mono (by omega))
        have hz5 := hb5.size
        clear hb5 HOC
        obtain ⟨q5, hq5⟩ : ∃ q5 : Nat, q5 = 0 := ⟨0, rfl⟩
        cases k with
        | zero =>
          have HN : Hid (r = tchk (prevT fs 1) (fs.drop 1)) := by
            show _ = _
            rw [HC.out, if_pos]
            simp [prevT, upB]
          have HM5 := Lib.hid (hM.out.below HB5.out hwz)
          clear HC hC
          go_wp2_with fail
          go_quiet (fail)
          have HK6 := Lib.hid (HK5.out.drewN nq)
          have HM6 : Hid (Rm (w5.drewN nq) Tryz.prog 9 w.heap.size 0 (pG ((fs.take 0).map Prod.fst))) := HM5.out.below (below_drewN (Below.refl _ w5) nq) (by omega)
          have HB6 : Hid (Below wr.heap.size wr (w5.drewN nq)) := below_drewN HB5.out nq
          have x0 := HK6.out.cell 0
          simp at x0
          go_wp2_with (at_mapUpdate; refine halt_ ?_)
          refine unhalt ?_
          refine wpList_put_rm rfl _ _ _ 77 rfl 9 4 Tryz.underlying9 Tryz.underlying77 w.heap.size 0 _ rfl HM6.out (by unfold maxLen; omega) f.1 hfm _ rfl rfl ?_
          intro w7 hM7 hg7
          replace hM7 : Rm w7 Tryz.prog 9 w.heap.size (0 + 1) (upd (pG ((fs.take 0).map Prod.fst)) f.1 (.bool true)) := hM7
          rw [← pG_snoc] at hM7
          have HM7 : Hid (Rm w7 Tryz.prog 9 w.heap.size (0 + 1) (pG ((fs.take (0 + 1)).map Prod.fst))) := by show Rm _ _ _ _ _ _; rw [HTK.out, List.map_append]; exact hM7
          have HB7 : Hid (Below w.heap.size w w7) := (hBel.out.trans (HB6.out.mono (by omega))).grown hg7 (by have := HB6.out.size; omega) (fun q e => by cases e; omega)
          have hz7 := hg7.size
          have hz6 : wr.heap.size ≤ (w5.drewN nq).heap.size := HB6.out.size
          clear hM7 hg7 x0
          go_wp2_with fail
          go_roundw
          case rel => exact ⟨0 + 1, by omega, by go_num, HM7.out, HN.out, HB7.out, by omega⟩
          case measure => simp [intOf]; omega
        | succ k =>
          have HM5 := Lib.hid (hM.out.below HB5.out hwz)
          have hBe5 : Below w.heap.size w w5 := hBel.out.trans (HB5.out.mono (by omega))
          obtain ⟨b', off', p, hbe, _, hpp, p0, _⟩ := (H0.out.below hBe5 hB).fl (show k < n by omega)
          cases hbe
          obtain ⟨le, hle⟩ : ∃ le, (Op.bytesLess f.1.toList p.1.toList || f.1.toList == p.1.toList) = le := ⟨_, rfl⟩
          have hls := le_not_less hle
          have hpv : prevT fs (k + 1) = some p.1 := by unfold prevT; rw [if_neg (by omega), Nat.add_sub_cancel, hpp]; rfl
          rw [hpv, upB] at HC
          have hg0 : decide ((0 : Int) < ((k + 1 : Nat) : Int)) = true := by rw [decide_eq_true_iff]; omega
          have x5 := HK5.out.cell 0
          simp at x5
          clear hpp hpv hC hBe5
          rw [hls] at HC
          clear hls
          cases le with
          | false =>
            have HN : Hid (r = tchk (prevT fs (k + 1 + 1)) (fs.drop (k + 1 + 1))) := by show _ = _; rw [HC.out, if_pos (by decide)]
            clear HC
            go_wp2_with fail
            go_quiet (fail)
            clear x5 p0 hle
            have HK6 := Lib.hid (HK5.out.drewN nq)
            have HM6 : Hid (Rm (w5.drewN nq) Tryz.prog 9 w.heap.size (k + 1) (pG ((fs.take (k + 1)).map Prod.fst))) := HM5.out.below (below_drewN (Below.refl _ w5) nq) (by omega)
            have HB6 : Hid (Below wr.heap.size wr (w5.drewN nq)) := below_drewN HB5.out nq
            have x0 := HK6.out.cell 0
            simp at x0
            go_wp2_with (at_mapUpdate; refine halt_ ?_)
            refine unhalt ?_
            refine wpList_put_rm rfl _ _ _ 77 rfl 9 4 Tryz.underlying9 Tryz.underlying77 w.heap.size (k + 1) _ rfl HM6.out (by unfold maxLen; omega) f.1 hfm _ rfl rfl ?_
            intro w7 hM7 hg7
            replace hM7 : Rm w7 Tryz.prog 9 w.heap.size ((k + 1) + 1) (upd (pG ((fs.take (k + 1)).map Prod.fst)) f.1 (.bool true)) := hM7
            rw [← pG_snoc] at hM7
            have HM7 : Hid (Rm w7 Tryz.prog 9 w.heap.size ((k + 1) + 1) (pG ((fs.take ((k + 1) + 1)).map Prod.fst))) := by show Rm _ _ _ _ _ _; rw [HTK.out, List.map_append]; exact hM7
            have HB7 : Hid (Below w.heap.size w w7) := (hBel.out.trans (HB6.out.mono (by omega))).grown hg7 (by have := HB6.out.size; omega) (fun q e => by cases e; omega)
            have hz7 := hg7.size
            have hz6 : wr.heap.size ≤ (w5.drewN nq).heap.size := HB6.out.size
            clear hM7 hg7 x0
            go_wp2_with fail
            go_roundw
            case rel => exact ⟨(k + 1) + 1, by omega, by go_num, HM7.out, HN.out, HB7.out, by omega⟩
            case measure => simp [intOf]; omega
          | true =>
            have HE : Hid (TckR fs 10) := .inr (.inl ⟨by rw [HL.out]; omega, by rw [HR.out, HC.out]; simp, by rw [HR.out, HC.out]; simp⟩)
            clear HC
            go_wp2_with fail
            go_quiet (fail)
            go_wp2_with fail
            go_ret
            exact ⟨10, rfl, HE.out, hBel.out.trans (below_drewN (HB5.out.mono (by omega)) _)⟩
    · have hlz : ¬ (k : Int) < (n : Int) := by omega
      have HZ : Hid (tchk none fs = 0) := by
        show _ = _
        rw [HR.out, hC.out, List.drop_of_length_le (by rw [HL.out]; omega)]
        rfl
      have HMP : Hid (Rm wr Tryz.prog 9 w.heap.size k (pG (fs.map Prod.fst))) := by
        have h1 := hM.out
        rw [List.take_of_length_le (by rw [HL.out]; omega)] at h1
        exact h1
      have HBE := Lib.hid hBel.out
      obtain ⟨we, hwe⟩ : ∃ we, we = wr := ⟨_, rfl⟩
      subst hwe
      clear hM hC hBel
      go_wp2_with fail
      go_loopw [51] (fun i wr => ∃ j : Nat, j ≤ n ∧ i = .int .i64 j ∧ Hid (∀ f ∈ fs.take j, ∀ q, q < f.1.size → dirAt (fs.map Prod.fst) f.1 q = false) ∧ Hid (Below we.heap.size we wr)) (fun i _ => n - (intOf i).toNat)
      case atStart => exact ⟨0, Nat.zero_le _, rfl, fun f hf => by simp at hf, Below.refl _ _⟩
      case round =>
        obtain ⟨j, hj, rfl, hNo, hBj⟩ := hrel
        have hwj := hBj.out.size
        by_cases hjn : j < n
        · have hBw2 : Below w.heap.size w wr := HBE.out.trans (hBj.out.mono (by omega))
          obtain ⟨b, off, f, rfl, hbB, hf, y0, y1⟩ := (H0.out.below hBw2 hB).fl hjn
          have hjz : (j : Int) < (n : Int) := by omega
          have HF := Lib.hid hf
          have hfs := HSZ.out f (List.mem_of_getElem? hf)
          obtain ⟨W2, hW2⟩ : ∃ W2, wr.alloc (.cells #[.string f.1, .string f.2] 68) = W2 := ⟨_, rfl⟩
          have HK2 : Hid (Bk W2 wr.heap.size 68 #[.string f.1, .string f.2]) := by rw [← hW2]; exact Bk.new wr _ _
          have HB2 : Hid (Below we.heap.size we W2) := by rw [← hW2]; exact hBj.out.alloc hwj _
          have HM2 := Lib.hid (HMP.out.below HB2.out hwz)
          have x0 := HK2.out.cell 0
          simp at x0
          obtain ⟨wm, hwm⟩ : ∃ wm, wm = wr := ⟨_, rfl⟩
          subst hwm
          clear hf hBw2
          go_wp2_with fail
          clear hW2
          go_loopw [58] (fun i wr => ∃ q : Nat, q ≤ f.1.size ∧ i = .int .i64 q ∧ Hid (∀ m, m < q → dirAt (fs.map Prod.fst) f.1 m = false) ∧ wr = W2) (fun i _ => f.1.size - (intOf i).toNat)
          case atStart => exact ⟨0, Nat.zero_le _, rfl, fun m hm => absurd hm (by omega), rfl⟩
          case round =>
            obtain ⟨q, hq, rfl, hNq, rfl⟩ := hrel
            by_cases hqs : q < f.1.size
            · have hqz : (q : Int) < (f.1.size : Int) := by omega
              have hql : (q : Int) ≤ (f.1.size : Int) := by omega
              have hxs : (f.1.extract 0 q).size ≤ maxLen := by simp; unfold maxLen; omega
              have hg := get_data f.1 q hqs
              have HG : Hid ((bl f.1)[q]? = some f.1[q]) := hg
              have hlk := HM2.out.look Tryz.underlying9 Tryz.underlying77 (hzz _) hxs
              rw [pG_get] at hlk
              clear hg
              by_cases h47 : f.1[q] = 47
              · have t1 : (((f.1[q].toNat : Nat) : Int) == 47) = true := by simp [h47]
                cases hm : memB (fs.map Prod.fst) (f.1.extract 0 q) with
                | true =>
                  have HE : Hid (TckR fs 7) := .inr (.inr ⟨by rw [HL.out]; omega, HZ.out, .inl ⟨⟨f, List.mem_of_getElem? HF.out, q, hqs, by unfold dirAt; rw [HG.out, h47, hm]; rfl⟩, rfl⟩⟩)
                  rw [hm] at hlk
                  clear hm h47
                  go_wp2_with fail
                  go_ret
                  exact ⟨7, rfl, HE.out, HBE.out.trans (HB2.out.mono (by omega))⟩
                | false =>
                  have HN2 : Hid (∀ m, m < q + 1 → dirAt (fs.map Prod.fst) f.1 m = false) := fun m hm' => by
                    by_cases e : m = q
                    · subst e; unfold dirAt; rw [hm]; simp
                    · exact hNq.out m (by omega)
                  rw [hm] at hlk
                  clear hm h47 hNq
                  go_wp2_with fail
                  go_roundw
                  case rel => exact ⟨q + 1, hqs, by go_num, HN2.out, trivial⟩
                  case measure => simp [intOf]; omega
              · have t1 : (((f.1[q].toNat : Nat) : Int) == 47) = false := by
                  rw [beq_eq_false_iff_ne]; intro e
                  apply h47
                  apply UInt8.toNat_inj.1
                  show f.1[q].toNat = 47
                  omega
                have HN2 : Hid (∀ m, m < q + 1 → dirAt (fs.map Prod.fst) f.1 m = false) := fun m hm' => by
                  by_cases e : m = q
                  · subst e; unfold dirAt; rw [HG.out, decide_eq_false (fun e => h47 (Option.some.inj e)), Bool.false_and]
                  · exact hNq.out m (by omega)
                clear h47 hNq
                go_wp2_with fail
                go_roundw
                case rel => exact ⟨q + 1, hqs, by go_num, HN2.out, trivial⟩
                case measure => simp [intOf]; omega
            · have hqz : ¬ (q : Int) < (f.1.size : Int) := by omega
              have HN3 : Hid (∀ g ∈ fs.take (j + 1), ∀ q, q < g.1.size → dirAt (fs.map Prod.fst) g.1 q = false) := fun g hg => by
                rw [take_snoc HF.out] at hg
                rcases List.mem_append.1 hg with hg | hg
                · exact hNo.out g hg
                · rw [List.mem_singleton.1 hg]; exact fun m hm => hNq.out m (by omega)
              clear hNq hNo
              go_wp2_with fail
              go_roundw
              case rel => exact ⟨j + 1, hjn, by go_num, HN3.out, HB2.out⟩
              case measure => simp [intOf]; omega
        · have hjz : ¬ (j : Int) < (n : Int) := by omega
          have HE : Hid (TckR fs 0) := .inr (.inr ⟨by rw [HL.out]; omega, HZ.out, .inr ⟨(fun h => by
            obtain ⟨f, hf, q, hq, hd⟩ := h
            have := hNo.out f (by rw [List.take_of_length_le (by rw [HL.out]; omega)]; exact hf) q hq
            rw [this] at hd; cases hd), rfl⟩⟩)
          clear hNo
          go_wp2_with fail
          go_ret
          exact ⟨0, rfl, HE.out, HBE.out.trans (hBj.out.mono (by omega))⟩
end Go.Proofs.YtmdhlkkekidknaaGreatDoor

namespace Go.Proofs.YtmdhlkkekidknaaGreatDoor
open Go.RowKit Go.Shelf

set_option maxHeartbeats 2000000 in
theorem path9_any (s : ByteArray) (w : World) (hs : s.size ≤ 1000000) :
    Calls Tryz.prog 63 #[.string s] w fun e w' => e = .returned (.bool (pathB s)) ∧ Below w.heap.size w w' := by
  have HL := Lib.hid (size_len s)
  by_cases c1 : 100 < (s.size : Int)
  · have hv : Hid (pathB s = false) := by
      show _ = _
      have := HL.out
      unfold pathB bl; rw [decide_eq_false (by omega), Bool.false_and]
    go_enter Tryz.func63, Tryz.ntmps63
    go_wp2_with fail
    go_ret
    exact ⟨ret_bool hv.out.symm, Below.refl _ _⟩
  have HN : Hid (pathB s = (splitS (bl s)).all nameL) := by
    show _ = _
    have := HL.out
    unfold pathB; rw [decide_eq_true (by unfold bl; omega), Bool.true_and]
  have hs1 : s.size ≤ 100 := by omega
  go_enter Tryz.func63, Tryz.ntmps63
  go_wp2_with fail
  go_loopw [0] (fun a wr => ∃ (t : ByteArray), t.size ≤ 100 ∧ a = .string t ∧ Hid ((splitS (bl s)).all nameL = (splitS (bl t)).all nameL) ∧ Hid (Below w.heap.size w wr)) (fun a _ => szOf a)
  case atStart => exact ⟨s, hs1, rfl, rfl, Below.refl _ _⟩
  case round =>
    obtain ⟨t, ht, rfl, hA, hBel⟩ := hrel
    have HCT := Lib.hid (cut9_any t wr (by omega))
    have htl2 : (bl t).length = t.size := (size_len t).symm
    have HSP := Lib.hid (splitS_slash (bl t))
    rw [htl2] at HSP
    have HTL := Lib.hid htl2
    clear htl2
    go_wp2_with (go_at_call 75; refine HCT.out.mono ?_; rintro e w2 ⟨a, b, m, rfl, hc, hb2⟩; refine halt_ ?_)
    refine unhalt ?_
    have HB2 : Hid (Below w.heap.size w w2) := hBel.out.trans (hb2.mono hBel.out.size)
    clear hb2 HCT
    rcases hc with ⟨hk, rfl, rfl, rfl⟩ | ⟨hk, rfl, rfl, rfl⟩
    · obtain ⟨k, hkk⟩ : ∃ k, slashL (bl t) = k := ⟨_, rfl⟩
      rw [hkk] at hk HSP ⊢
      clear hkk
      have HEX : Hid (bl (t.extract 0 k) = (bl t).take k) := by show _ = _; unfold bl; rw [extract_list]; simp
      have HEY : Hid (bl (t.extract (k + 1) t.size) = (bl t).drop (k + 1)) := by
        show _ = _
        have h2 := HTL.out
        unfold bl at h2 ⊢; rw [extract_list, List.take_of_length_le (by rw [List.length_drop]; omega)]
      have HSP2 : Hid (splitS (bl t) = (bl t).take k :: splitS ((bl t).drop (k + 1))) := by show _ = _; rw [HSP.out, if_pos hk]
      have HNM := Lib.hid (vname7_any (t.extract 0 k) w2 (by rw [ByteArray.size_extract]; unfold maxLen; omega))
      cases hp : nameB (t.extract 0 k) with
      | false =>
        have hF : Hid (pathB s = false) := by
          show _ = _
          rw [HN.out, hA.out, HSP2.out, List.all_cons, ← HEX.out]
          show (nameB (t.extract 0 k) && _) = false
          rw [hp, Bool.false_and]
        rw [hp] at HNM
        clear hp
        go_wp2_with (go_at_call 116; refine HNM.out.mono ?_; rintro e w' ⟨rfl, rfl⟩)
        go_ret
        exact ⟨ret_bool hF.out.symm, HB2.out⟩
      | true =>
        have HA2 : Hid ((splitS (bl s)).all nameL = (splitS (bl (t.extract (k + 1) t.size))).all nameL) := by
          show _ = _
          rw [hA.out, HSP2.out, List.all_cons, ← HEX.out, HEY.out]
          show (nameB (t.extract 0 k) && _) = _
          rw [hp, Bool.true_and]
        have hz2 : (t.extract (k + 1) t.size).size = t.size - (k + 1) := by rw [ByteArray.size_extract]; omega
        have HZ2 := Lib.hid hz2
        rw [hp] at HNM
        clear hp hz2
        go_wp2_with (go_at_call 116; refine HNM.out.mono ?_; rintro e w' ⟨rfl, rfl⟩)
        go_roundw
        case rel => exact ⟨_, by rw [HZ2.out]; omega, rfl, HA2.out, HB2.out⟩
        case measure => show (t.extract (k + 1) t.size).size < t.size; rw [HZ2.out]; omega
    · have HNM := Lib.hid (vname7_any a w2 (by unfold maxLen; omega))
      have hF : Hid (pathB s = nameB a) := by
        show _ = _
        rw [HN.out, hA.out, HSP.out, if_neg (by omega)]; simp [nameB]
      cases hp : nameB a with
      | false =>
        rw [hp] at HNM hF
        clear hp
        go_wp2_with (go_at_call 116; refine HNM.out.mono ?_; rintro e w' ⟨rfl, rfl⟩)
        go_ret
        exact ⟨ret_bool hF.out.symm, HB2.out⟩
      | true =>
        rw [hp] at HNM hF
        clear hp
        go_wp2_with (go_at_call 116; refine HNM.out.mono ?_; rintro e w' ⟨rfl, rfl⟩)
        go_ret
        exact ⟨ret_bool hF.out.symm, HB2.out⟩
def belB (d p : ByteArray) : Bool := decide (d.size < p.size) && (decide (p.extract 0 d.size = d) && decide ((bl p)[d.size]? = some 47))
set_option maxHeartbeats 2000000 in
theorem below9_any (d p : ByteArray) (w : World) :
    Calls Tryz.prog 84 #[.string d, .string p] w fun e w' => e = .returned (.bool (belB d p)) ∧ w = w' := by
  go_enter Tryz.func84, Tryz.ntmps84
  have HB : Hid (belB d p = (decide (d.size < p.size) && (decide (p.extract 0 d.size = d) && decide ((bl p)[d.size]? = some 47)))) := rfl
  by_cases c1 : d.size < p.size
  · have hz : (d.size : Int) < (p.size : Int) := by omega
    have hz1 : (d.size : Int) ≤ (p.size : Int) := by omega
    have hse := str_dec (p.extract 0 d.size) d
    have HG := Lib.hid (get_data p d.size c1)
    rw [decide_eq_true c1, Bool.true_and] at HB
    by_cases c2 : p.extract 0 d.size = d
    · rw [decide_eq_true c2, Bool.true_and] at HB
      rw [decide_eq_true c2] at hse
      by_cases c3 : p[d.size] = 47
      · have t1 : (((p[d.size].toNat : Nat) : Int) == 47) = true := by simp [c3]
        have HF : Hid (belB d p = true) := by show _ = _; rw [HB.out]; exact decide_eq_true (HG.out.trans (by rw [c3]))
        clear c2 c3
        go_wp2
        go_ret
        exact ⟨ret_bool HF.out.symm, rfl⟩
      · have t1 : (((p[d.size].toNat : Nat) : Int) == 47) = false := by
          rw [beq_eq_false_iff_ne]; intro e
          apply c3
          apply UInt8.toNat_inj.1
          show p[d.size].toNat = 47
          omega
        have HF : Hid (belB d p = false) := by show _ = _; rw [HB.out]; exact decide_eq_false fun h => c3 (Option.some.inj (HG.out.symm.trans h))
        clear c2 c3
        go_wp2
        go_ret
        exact ⟨ret_bool HF.out.symm, rfl⟩
    · rw [decide_eq_false c2, Bool.false_and] at HB
      rw [decide_eq_false c2] at hse
      clear c2
      go_wp2
      go_ret
      exact ⟨ret_bool HB.out.symm, rfl⟩
  · have hz : ¬ (d.size : Int) < (p.size : Int) := by omega
    rw [decide_eq_false c1, Bool.false_and] at HB
    go_wp2
    go_ret
    exact ⟨ret_bool HB.out.symm, rfl⟩
end Go.Proofs.YtmdhlkkekidknaaGreatDoor
