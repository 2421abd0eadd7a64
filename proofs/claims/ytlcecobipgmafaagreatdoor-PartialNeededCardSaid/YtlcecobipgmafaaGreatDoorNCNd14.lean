/-
  Lemmas of the card.
-/
import Derived.Deep.RegionHeld3
import Derived.RegionIn
import Derived.Deep.QuietTactic
import Derived.BigQuiet
import Derived.Laws.StructEq
import Derived.Test.YtlcecobipgmafaaGreatDoorNCNd13
import Derived.Test.YtlcecobipgmafaaGreatDoorNCNd12
import Derived.Test.YtlcecobipgmafaaGreatDoorNCNd7
import Derived.Test.YtlcecobipgmafaaGreatDoorNCNd5
import Derived.Test.YtlcecobipgmafaaGreatDoorNCNd1
import Derived.Test.YtlcecobipgmafaaGreatDoorNCNd3
import Derived.Test.YtlcecobipgmafaaGreatDoorNCNd2
import Derived.Test.YtlcecobipgmafaaGreatDoorNCNd4
import Derived.Test.YtlcecobipgmafaaGreatDoorNCNd10
import Derived.Test.YtlcecobipgmafaaGreatDoorNCNd8
import Derived.Test.YtlcecobipgmafaaGreatDoorNCNd11
import Derived.Test.YtlcecobipgmafaaGreatDoorNCNd9
import Derived.Test.YtlcecobipgmafaaGreatDoorNCNd6
set_option maxRecDepth 100000
set_option maxHeartbeats 8000000
namespace Go.Proofs.YtlcecobipgmafaaGreatDoor
open Go.RowKit
structure DeSt (w W : World) (x : Array Value) (r : Bytes) (bad : Bool) : Prop where
 z : Bk W w.heap.size 75 #[.int .i64 0, .string ⟨#[]⟩, .slice none 0 0, .int .u64 0, .int .u64 0, .slice none 0 0, .string ⟨#[]⟩, .int .i64 0, .string ⟨#[]⟩]
 r : Bk W (w.heap.size + 1) 117 #[.string (ofL r), .bool bad]
 o : Bk W (w.heap.size + 1 + 1) 75 x
 b : Below w.heap.size w W
theorem DeSt.lt {w W : World} {x : Array Value} {r : Bytes} {bad : Bool} (h : DeSt w W x r bad) : w.heap.size + 3 <= W.heap.size := by have := h.o.lt; omega
theorem DeSt.read {w W W' : World} {x : Array Value} {r r' : Bytes} {bad bad' : Bool} (h : DeSt w W x r bad) (hr : Bk W' (w.heap.size + 1) 117 #[.string (ofL r'), .bool bad']) (hg : Gb (fun g => g = w.heap.size + 1) W W') : DeSt w W' x r' bad' :=
 ⟨hg.bk h.z (by show ¬ w.heap.size = w.heap.size + 1; omega), hr, hg.bk h.o (by show ¬ w.heap.size + 1 + 1 = w.heap.size + 1; omega), h.b.trans (hg.below h.b.size (fun q hq e => by omega))⟩
theorem DeSt.set {w W : World} {x : Array Value} {r : Bytes} {bad : Bool} (h : DeSt w W x r bad) (k : Nat) (v : Value) : DeSt w (W.setCell ⟨w.heap.size + 1 + 1, k, none⟩ v) (x.setIfInBounds k v) r bad :=
 ⟨h.z.far (p := ⟨w.heap.size + 1 + 1, k, none⟩) (by show w.heap.size ≠ w.heap.size + 1 + 1; omega) _, h.r.far (p := ⟨w.heap.size + 1 + 1, k, none⟩) (by show w.heap.size + 1 ≠ w.heap.size + 1 + 1; omega) _, h.o.set k v, Below.setCell h.b (p := ⟨w.heap.size + 1 + 1, k, none⟩) (by show w.heap.size <= w.heap.size + 1 + 1; omega) _⟩
theorem DeSt.below {w W W' : World} {x : Array Value} {r : Bytes} {bad : Bool} (h : DeSt w W x r bad) (hb : Below (w.heap.size + 3) W W') : DeSt w W' x r bad :=
 ⟨h.z.below hb (by omega), h.r.below hb (by omega), h.o.below hb (by omega), h.b.trans (hb.mono (by omega))⟩
def qO (s : ByteArray) (w : World) (e : Ending) (w' : World) : Prop :=
 ((∃ o sl, OkO o /\ s = ofL (aB o) /\ e = .returned (.tuple #[obV o sl, .int .i64 0]) /\ ObM w' w'.heap.size o sl) ∨ ((∀ o, OkO o -> s ≠ ofL (aB o)) /\ e = .returned (.tuple #[.agg #[.int .i64 0, .string ⟨#[]⟩, .slice none 0 0, .int .u64 0, .int .u64 0, .slice none 0 0, .string ⟨#[]⟩, .int .i64 0, .string ⟨#[]⟩], .int .i64 13]))) /\ Below w.heap.size w w'
theorem jA {s : ByteArray} {o : Ob} {r : Bytes} (hp : pz7 (toL s) = (o, r, true)) : ∀ o', OkO o' -> s ≠ ofL (aB o') := fun o' ho e => by
 rw [e, eD, vW ho] at hp; cases hp
theorem jD {s : ByteArray} {o : Ob} {st : St} (hp : pz7 (toL s) = (o, st)) (hn : ¬ (OkO o /\ ofL (aB o) = s)) : ∀ o', OkO o' -> s ≠ ofL (aB o') := fun o' ho e => by
 have := hp; rw [e, eD, vW ho] at this; cases this; exact hn ⟨ho, e.symm⟩
theorem Ef {s r2 : Bytes} {bad2 : Bool} (h : rn (s, false) = (2, r2, bad2)) : pz7 s = (⟨2, ⟨#[]⟩, (rE (rn (r2, bad2)).1 (rn (r2, bad2)).2).1, zD, [], ⟨#[]⟩, 0, ⟨#[]⟩⟩, (rE (rn (r2, bad2)).1 (rn (r2, bad2)).2).2) := by
 unfold pz7; simp only [h]; rfl
theorem Bj {s r2 : Bytes} {bad2 : Bool} (h : rn (s, false) = (3, r2, bad2)) : pz7 s = (let t := rg (r2, bad2); let n := rn t.2; let q := rD n.1 n.2; let a := rt q.2; let i := rn a.2; let m := rt i.2
  (⟨3, ⟨#[]⟩, [], t.1, q.1, ofL a.1, (i.1 : Int), ofL m.1⟩, m.2)) := by
 unfold pz7; simp only [h]; rfl
theorem BP {s r2 : Bytes} {k : Nat} {bad2 : Bool} (h : rn (s, false) = (k, r2, bad2)) (h2 : k ≠ 2) (h3 : k ≠ 3) : pz7 s = (⟨(k : Int), ofL (rt (r2, bad2)).1, [], zD, [], ⟨#[]⟩, 0, ⟨#[]⟩⟩, (rt (r2, bad2)).2) := by
 unfold pz7; simp only [h, if_neg h2, if_neg h3]
theorem EC {n j : Nat} {st0 : St} {es : List Ent} {r t r1 r2 r3 : Bytes} {x : Nat} {d : Dig} {b1 b2 b3 : Bool} (h : rE n st0 = (es ++ (rE (n - j) (r, false)).1, (rE (n - j) (r, false)).2)) (hj : j < n)
  (h1 : rt (r, false) = (t, r1, b1)) (h2 : rn (r1, b1) = (x, r2, b2)) (h3 : rg (r2, b2) = (d, r3, b3)) :
  rE n st0 = ((es ++ [⟨ofL t, decide (x = 1), d⟩]) ++ (rE (n - (j + 1)) (r3, b3)).1, (rE (n - (j + 1)) (r3, b3)).2) := by
 rw [show n - j = n - (j + 1) + 1 by omega, rE, if_neg (by simp), h1] at h; simp only at h; rw [h2] at h; simp only at h; rw [h3] at h; rw [h]; simp
theorem Eg {n j : Nat} {st0 : St} {es : List Dig} {r r3 : Bytes} {d : Dig} {b3 : Bool} (h : rD n st0 = (es ++ (rD (n - j) (r, false)).1, (rD (n - j) (r, false)).2)) (hj : j < n)
  (h3 : rg (r, false) = (d, r3, b3)) :
  rD n st0 = ((es ++ [d]) ++ (rD (n - (j + 1)) (r3, b3)).1, (rD (n - (j + 1)) (r3, b3)).2) := by
 rw [show n - j = n - (j + 1) + 1 by omega, rD, if_neg (by simp), h3] at h; rw [h]; simp
theorem wZ {n j : Nat} {st0 : St} {es : List Ent} {r : Bytes} {b : Bool} (h : rE n st0 = (es ++ (rE (n - j) (r, b)).1, (rE (n - j) (r, b)).2)) (hj : n <= j ∨ b = true) : rE n st0 = (es, r, b) := by
 have e : rE (n - j) (r, b) = ([], r, b) := by
  rcases hj with hj | hj
  . rw [show n - j = 0 by omega]; rfl
  . subst hj
    cases n - j with
    | zero => rfl
    | succ m => rw [rE, if_pos rfl]
 rw [h, e, List.append_nil]
theorem wU {n j : Nat} {st0 : St} {es : List Dig} {r : Bytes} {b : Bool} (h : rD n st0 = (es ++ (rD (n - j) (r, b)).1, (rD (n - j) (r, b)).2)) (hj : n <= j ∨ b = true) : rD n st0 = (es, r, b) := by
 have e : rD (n - j) (r, b) = ([], r, b) := by
  rcases hj with hj | hj
  . rw [show n - j = 0 by omega]; rfl
  . subst hj
    cases n - j with
    | zero => rfl
    | succ m => rw [rD, if_pos rfl]
 rw [h, e, List.append_nil]
theorem Fu {st : St} (h : (rg st).2.2 = false) : (rg st).2.1.length + 16 <= st.1.length := by
 unfold rg at h ⊢; split at h
 . cases h
 . rename_i hn
   rw [if_neg hn]; simp at hn ⊢; omega
def Far (j : Nat) (r : Bytes) (bad : Bool) (k : Nat) : Prop := bad = false -> j + r.length <= k
theorem Far.step {j k : Nat} {r r' : Bytes} {b b' : Bool} {st : St} {d : Dig} (h : Far j r b k) (hb : b = false) (h3 : rg st = (d, r', b')) (hl : st.1.length <= r.length) : Far (j + 1) r' b' k := fun e => by
 have := @Fu st (by rw [h3]; exact e); rw [h3] at this; have := h hb; simp only at *; omega
theorem sG (s : ByteArray) (w : World) (hs : s.size <= 1000000) : Calls Tryz.prog 43 #[.string s] w (qO s w) := by
 have HS := ah hs; have hsl : (toL s).length <= 1000000 := by rw [<- bu]; exact hs
 have HLN : Hid (∀ r : Bytes, r.length <= (toL s).length -> r.length <= 1000000) := fun r h => by omega
 obtain ⟨W1, hW1⟩ : ∃ W, ((w.alloc (.cells #[.int .i64 0, .string ⟨#[]⟩, .slice none 0 0, .int .u64 0, .int .u64 0, .slice none 0 0, .string ⟨#[]⟩, .int .i64 0, .string ⟨#[]⟩] 75)).alloc (.cells #[.string s, .bool false] 117)).alloc (.cells #[.int .i64 0, .string ⟨#[]⟩, .slice none 0 0, .int .u64 0, .int .u64 0, .slice none 0 0, .string ⟨#[]⟩, .int .i64 0, .string ⟨#[]⟩] 75) = W := ⟨_, rfl⟩
 have HD1 : Hid (DeSt w W1 #[.int .i64 0, .string ⟨#[]⟩, .slice none 0 0, .int .u64 0, .int .u64 0, .slice none 0 0, .string ⟨#[]⟩, .int .i64 0, .string ⟨#[]⟩] (toL s) false) := by
  rw [<- hW1]; refine ⟨((Bk.new w _ _).alloc _).alloc _, ?_, ?_, (((Below.refl _ w).alloc ai _).alloc (by simp) _).alloc (by simp; omega) _⟩
  . have := (Bk.new (w.alloc (.cells #[.int .i64 0, .string ⟨#[]⟩, .slice none 0 0, .int .u64 0, .int .u64 0, .slice none 0 0, .string ⟨#[]⟩, .int .i64 0, .string ⟨#[]⟩] 75)) 117 #[.string s, .bool false]).alloc (.cells #[.int .i64 0, .string ⟨#[]⟩, .slice none 0 0, .int .u64 0, .int .u64 0, .slice none 0 0, .string ⟨#[]⟩, .int .i64 0, .string ⟨#[]⟩] 75)
    rw [World.size_alloc] at this; exact this
  . have := Bk.new ((w.alloc (.cells #[.int .i64 0, .string ⟨#[]⟩, .slice none 0 0, .int .u64 0, .int .u64 0, .slice none 0 0, .string ⟨#[]⟩, .int .i64 0, .string ⟨#[]⟩] 75)).alloc (.cells #[.string s, .bool false] 117)) 75 #[.int .i64 0, .string ⟨#[]⟩, .slice none 0 0, .int .u64 0, .int .u64 0, .slice none 0 0, .string ⟨#[]⟩, .int .i64 0, .string ⟨#[]⟩]
    rw [World.size_alloc, World.size_alloc] at this; exact this
 obtain ⟨⟨k, r2, bad2⟩, hq⟩ : ∃ q, rn (toL s, false) = q := ⟨_, rfl⟩
 have HC1 := ah (iD (w.heap.size + 1) (toL s) false W1 HD1.out.r hsl); have h2l := gZ (toL s, false); rw [hq] at HC1 h2l; simp only at h2l HC1; have HL2 : Hid (r2.length <= (toL s).length) := h2l.1; have HK : Hid (k <= 1099511627776) := h2l.2; clear h2l hs; have HW1 := ah hW1; clear hW1; by_cases hk2 : k = 2
 . subst hk2
   have HP0 := ah (Ef hq); have HC2 : Hid (Calls Tryz.prog 65 #[.pointer (some ⟨w.heap.size + 1, 0, none⟩)] W1 (RzE (.int .i64 2) (w.heap.size + 1) (r2, bad2) W1)) := HC1.out; clear HC1 hq
   go_enter Tryz.func43, Tryz.ntmps43
   go_wp2_with fail; rw [HW1.out]; refine HC2.out.mono ?_; rintro e v2 ⟨rfl, hr, hg⟩; have HDv := ah (HD1.out.read hr hg); clear hr hg HC2 HD1 HW1; obtain ⟨y0, y1, y2, y3, y4, y5, y6, y7, y8⟩ := HDv.out.o.nine; have f0 := HDv.out.o.free 0; obtain ⟨W2, hW2⟩ : ∃ W, (v2.setCell ⟨w.heap.size + 1 + 1, 0, none⟩ (.int .i64 2)) = W := ⟨_, rfl⟩
   have HD2 : Hid (DeSt w W2 #[.int .i64 2, .string ⟨#[]⟩, .slice none 0 0, .int .u64 0, .int .u64 0, .slice none 0 0, .string ⟨#[]⟩, .int .i64 0, .string ⟨#[]⟩] r2 bad2) := by rw [<- hW2]; exact (HDv.out.set 0 (.int .i64 2))
   clear HDv; obtain ⟨c0, c1, c2, c3, c4, c5, c6, c7, c8⟩ := HD2.out.o.nine; obtain ⟨⟨nn, r3, bad3⟩, hq⟩ : ∃ q, rn (r2, bad2) = q := ⟨_, rfl⟩
   have HC := ah (iD (w.heap.size + 1) r2 bad2 W2 HD2.out.r (HLN.out _ HL2.out)); have hl := gZ (r2, bad2); rw [hq] at HC hl; have HQ3 := ah hq; simp only at HC hl; have HL3 : Hid (r3.length <= (toL s).length) := by have := HL2.out; show _ <= _; omega
   have HE3 := ah hl; clear hq hl; go_wp2_with fail; refine HC.out.mono ?_; rintro e W3 ⟨rfl, hr, hg⟩; have HD3 := ah (HD2.out.read hr hg); clear hr hg HC HD2 hW2 c0 c1 c2 c3 c4 c5 c6 c7 c8 y0 y1 y2 y3 y4 y5 y6 y7 y8; obtain ⟨i0, hi, hz0, hz1, hz2⟩ := info_parts p8; have Hi := ah hi; have Hz0 := ah hz0; have Hz1 := ah hz1; have Hz2 := ah hz2; clear hi hz0 hz1 hz2; have hsl := HS.out; go_wp2_with fail
   go_loopw [7] (fun i wr => ∃ (j : Nat) (Aj : OA) (cj : Nat) (rj : Bytes) (bj : Bool) (es : List Ent), i = .int .i64 (j : Int) /\ j <= 1000001 /\ j <= cj /\ cj <= maxLen /\ Hid (Apd wr (w.heap.size + 1 + 1 + 1) 111 4 Aj j cj (flat enC es)) /\ Hid (DeSt w wr #[.int .i64 2, .string ⟨#[]⟩, .slice Aj j cj, .int .u64 0, .int .u64 0, .slice none 0 0, .string ⟨#[]⟩, .int .i64 0, .string ⟨#[]⟩] rj bj) /\ Hid (rE nn (r3, bad3) = (es ++ (rE (nn - j) (rj, bj)).1, (rE (nn - j) (rj, bj)).2)) /\ Hid (rj.length <= r3.length) /\ Hid (Far j rj bj r3.length)) (fun i _ => nn - (intOf i).toNat)
   case atStart => exact ⟨0, none, 0, r3, bad3, [], rfl, Nat.zero_le _, Nat.le_refl _, Nat.zero_le _, .inr ⟨rfl, rfl, rfl⟩, HD3.out, by show _ = _; simp, Nat.le_refl _, fun _ => by omega⟩
   case round =>
    obtain ⟨j, Aj, cj, rj, bj, es, rfl, hj, hjc, hcm, hA, hD, hE, hrl, hF⟩ := hrel; obtain ⟨WX, hwx⟩ : ∃ wo, wo = wr := ⟨_, rfl⟩
    subst hwx; clear HD3; have HLj : Hid (rj.length <= (toL s).length) := by have := hrl.out; have := HL3.out; show _ <= _; omega
    obtain ⟨x0, x1, _, _⟩ := hD.out.r.two; have zX := hD.out.lt; by_cases hlt : j < nn
    . have hlz : (j : Int) < (nn : Int) := by omega
      cases bj with
      | true =>
        have HX := ah (wZ hE.out (.inr rfl)); clear hE hF; have HP : Hid (pz7 (toL s) = (⟨2, ⟨#[]⟩, es, zD, [], ⟨#[]⟩, 0, ⟨#[]⟩⟩, (rj, true))) := by show _ = _; rw [HP0.out, HQ3.out]; simp only; rw [HX.out]
        have HOK7 : Hid (∀ e ∈ es, e.nm.size <= 1000000 /\ WfD e.dg) := fun e he => by
         have h1 := (qD nn (r3, bad3)).1; rw [HX.out] at h1; have h2 := h1 e he; have h3 := HLN.out _ HL3.out; exact ⟨Nat.le_trans h2.1 h3, h2.2⟩
        have HDX := hD; have hWX : True := trivial; have c0 := True; have c1 := True; have c2 := True; have c3 := True; have c4 := True; have c5 := True; have c6 := True; have c7 := True; have c8 := True; have y0 := True; have y1 := True; have y2 := True; have y3 := True; have y4 := True; have y5 := True; have y6 := True; have y7 := True; have y8 := True; clear x0 x1; have HM : Hid (ObM WX WX.heap.size ⟨2, ⟨#[]⟩, es, zD, [], ⟨#[]⟩, 0, ⟨#[]⟩⟩ ⟨Aj, j, cj, none, 0, 0⟩) := ⟨hA.out.sl, Sl.nil _ _ _ _, hjc, hcm, Nat.le_refl _, Nat.zero_le _⟩
        have HCK := ah (jk ⟨2, ⟨#[]⟩, es, zD, [], ⟨#[]⟩, 0, ⟨#[]⟩⟩ ⟨Aj, j, cj, none, 0, 0⟩ WX.heap.size WX HM.out ai ⟨ja, (fun d h => by cases h), Nat.zero_le _, Nat.zero_le _, Int.le_refl _, by show (0 : Int) <= _; omega, fun e he => (HOK7.out e he).1, fun e he => (HOK7.out e he).2⟩); obtain ⟨op, hop⟩ : ∃ op : Ob, op = ⟨2, ⟨#[]⟩, es, zD, [], ⟨#[]⟩, 0, ⟨#[]⟩⟩ := ⟨_, rfl⟩
        obtain ⟨osl, hosl⟩ : ∃ osl : Osl, osl = ⟨Aj, j, cj, none, 0, 0⟩ := ⟨_, rfl⟩
        have HOP := ah hop; have HOS := ah hosl; rw [<- hop] at HP; rw [<- hop, <- hosl] at HM; obtain ⟨bs, hbs⟩ : ∃ bs, ofL (aB op) = bs := ⟨_, rfl⟩
        have HBAD : Hid ((true = true ∨ ¬ (OkO op /\ bs = s)) -> ∀ o', OkO o' -> s ≠ ofL (aB o')) := fun h => by
         rcases h with h | h
         . have hp := HP.out
           rw [h] at hp; exact jA hp
         . rw [<- hbs] at h; exact jD HP.out h
        unfold En7 at HCK; rw [<- hop, hbs] at HCK; have HBS := ah hbs; obtain ⟨p, hp⟩ : ∃ p, OkO op = p := ⟨_, rfl⟩
        have HPE := ah hp; rw [hp] at HBAD HCK; rw [hop] at HCK; simp only [obV, obC] at HCK; clear c0 c1 c2 c3 c4 c5 c6 c7 c8; obtain ⟨c0, c1, c2, c3, c4, c5, c6, c7, c8⟩ := HDX.out.o.nine; obtain ⟨x0, x1, _, _⟩ := HDX.out.r.two; clear hop hosl hbs hp HP0 HP; go_wp2_with fail; refine HCK.out.mono ?_; rintro e w8 ⟨hq, hb8⟩; have HD8 := ah (HDX.out.below (hb8.mono HDX.out.lt)); have HM8 := ah ((HM.out.below hb8 ai).more hb8.size); have HA8 := ah (hA.out.below hb8); clear c0 c1 c2 c3 c4 c5 c6 c7 c8 y0 y1 y2 y3 y4 y5 y6 y7 y8 x0 x1 hb8 HCK hWX HM; obtain ⟨c0, c1, c2, c3, c4, c5, c6, c7, c8⟩ := HD8.out.o.nine; obtain ⟨x0, x1, _, _⟩ := HD8.out.r.two; obtain ⟨d0, d1', d2', d3, d4, d5, d6, d7, d8⟩ := HD8.out.z.nine; obtain ⟨g0, g1, g2, g3, g4, g5, g6, g7, g8⟩ := fr9 HD8.out.z; have hne : w.heap.size ≠ w.heap.size + 1 + 1 := by omega
        have HB := ah (HBAD.out (.inl (by trivial))); rcases hq with ⟨hp, rfl⟩ | ⟨hp, z, hz, rfl⟩
        . clear hp
          go_wp2_with fail; refine bodyPost_ret (aX Tryz.results43 rfl (aQ HD8.out.z _ _ _ _ _ _ _ _ _) rfl) rfl ⟨.inr ⟨HB.out, rfl⟩, aP HD8.out.b ai _ _ _ _ _ _ _ _ _⟩
        . have hzn : (z != 0) = true := by rw [bne_iff_ne]; exact hz
          clear hp hz; go_wp2_with fail; refine bodyPost_ret (aX Tryz.results43 rfl (aQ HD8.out.z _ _ _ _ _ _ _ _ _) rfl) rfl ⟨.inr ⟨HB.out, rfl⟩, aP HD8.out.b ai _ _ _ _ _ _ _ _ _⟩
      | false =>
        have hjr : j + 1 <= 1000001 := by have h1 := hF.out rfl; have h2 := HLN.out _ HL3.out; omega
        obtain ⟨W5, hW5⟩ : ∃ W, WX.alloc (.cells #[.string ⟨#[]⟩, .bool false, .int .u64 0, .int .u64 0] 111) = W := ⟨_, rfl⟩
        have hb5 : Below WX.heap.size WX W5 := by rw [<- hW5]; exact (Below.refl _ WX).alloc ai _
        have HG5 : Hid (Gb (fun g => g = w.heap.size + 1) WX W5) := Gb.of_below hb5; have HE5 : Hid (Bk W5 WX.heap.size 111 #[.string ⟨#[]⟩, .bool false, .int .u64 0, .int .u64 0]) := by rw [<- hW5]; exact Bk.new WX _ _
        have HR5 : Hid (Bk W5 (w.heap.size + 1) 117 #[.string (ofL rj), .bool false]) := hD.out.r.below hb5 (by omega); obtain ⟨⟨t, ra, ba⟩, hqa⟩ : ∃ q, rt (rj, false) = q := ⟨_, rfl⟩
        obtain ⟨⟨x, rb, bb⟩, hqb⟩ : ∃ q, rn (ra, ba) = q := ⟨_, rfl⟩
        obtain ⟨⟨⟨d1, d2⟩, rc, bc⟩, hqc⟩ : ∃ q, rg (rb, bb) = q := ⟨_, rfl⟩
        have hla := gX (rj, false); have hlb := gZ (ra, ba); have hlc := jT (rb, bb); rw [hqa] at hla; rw [hqb] at hlb; rw [hqc] at hlc; simp only at hla hlb hlc; have HST := ah (EC hE.out hlt hqa hqb hqc); have HFA : Hid (Far (j + 1) rc bc r3.length) := hF.out.step rfl hqc (by simp only; omega); have HLc : Hid (rc.length <= r3.length) := by show _ <= _; have := hrl.out; omega
        have HLa : Hid (ra.length <= 1000000) := by show _ <= _; have := HLN.out _ HLj.out; omega
        have HLb : Hid (rb.length <= 1000000) := by show _ <= _; have := HLN.out _ HLj.out; omega
        have HC := ah (iH (w.heap.size + 1) rj false W5 HR5.out (HLN.out _ HLj.out)); rw [hqa] at HC; have HQA := ah hqa; have HQB := ah hqb; have HQC := ah hqc; have HW5 := ah hW5; clear hqa hqb hqc hla hlb hlc hE hF hrl hb5 hW5; go_wp2_with fail; rw [HW5.out]; refine HC.out.mono ?_; rintro e v6 ⟨rfl, hr6, hg6⟩; have HG6 := ah (HG5.out.trans hg6); have HE6 := ah (hg6.bk HE5.out (by show ¬ WX.heap.size = w.heap.size + 1; omega)); have HR6 := ah hr6; clear hr6 hg6 HC HG5 HE5 HR5 HW5; obtain ⟨y0, y1, y2, y3⟩ := HE6.out.four; have f0 := HE6.out.free 0; obtain ⟨W7, hW7⟩ : ∃ W, v6.setCell ⟨WX.heap.size, 0, none⟩ (.string (ofL t)) = W := ⟨_, rfl⟩
        have HG7 : Hid (Gb (fun g => g = w.heap.size + 1) WX W7) := by rw [<- hW7]; exact HG6.out.after ai 0 _
        have HE7 : Hid (Bk W7 WX.heap.size 111 #[.string (ofL t), .bool false, .int .u64 0, .int .u64 0]) := by rw [<- hW7]; exact HE6.out.set 0 (.string (ofL t))
        have HR7 : Hid (Bk W7 (w.heap.size + 1) 117 #[.string (ofL ra), .bool ba]) := by rw [<- hW7]; exact HR6.out.far (p := ⟨WX.heap.size, 0, none⟩) (by show w.heap.size + 1 ≠ WX.heap.size; omega) _
        have HC := ah (iD (w.heap.size + 1) ra ba W7 HR7.out HLa.out); rw [HQB.out] at HC; clear HG6 HE6 HR6; go_wp2_with fail; refine HC.out.mono ?_; rintro e v8 ⟨rfl, hr8, hg8⟩; have HG8 := ah (HG7.out.trans hg8); have HE8 := ah (hg8.bk HE7.out (by show ¬ WX.heap.size = w.heap.size + 1; omega)); have HR8 := ah hr8; clear hr8 hg8 HC HG7 HE7 HR7 hW7 y0 y1 y2 y3 f0; obtain ⟨y0, y1, y2, y3⟩ := HE8.out.four; have f1 := HE8.out.free 1; have hx1 : ((x : Int) == 1) = decide (x = 1) := by rw [Bool.eq_iff_iff]; simp; omega
        obtain ⟨W9, hW9⟩ : ∃ W, v8.setCell ⟨WX.heap.size, 1, none⟩ (.bool (decide (x = 1))) = W := ⟨_, rfl⟩
        have HG9 : Hid (Gb (fun g => g = w.heap.size + 1) WX W9) := by rw [<- hW9]; exact HG8.out.after ai 1 _
        have HE9 : Hid (Bk W9 WX.heap.size 111 #[.string (ofL t), .bool (decide (x = 1)), .int .u64 0, .int .u64 0]) := by rw [<- hW9]; exact HE8.out.set 1 (.bool (decide (x = 1)))
        have HR9 : Hid (Bk W9 (w.heap.size + 1) 117 #[.string (ofL rb), .bool bb]) := by rw [<- hW9]; exact HR8.out.far (p := ⟨WX.heap.size, 1, none⟩) (by show w.heap.size + 1 ≠ WX.heap.size; omega) _
        have HC := ah (nN (w.heap.size + 1) rb bb W9 HR9.out HLb.out); rw [HQC.out] at HC; clear HG8 HE8 HR8; go_wp2_with fail; refine HC.out.mono ?_; rintro e v10 ⟨rfl, hr10, hg10⟩; simp only [az]; have HG10 := ah (HG9.out.trans hg10); have HE10 := ah (hg10.bk HE9.out (by show ¬ WX.heap.size = w.heap.size + 1; omega)); have HR10 := ah hr10; clear hr10 hg10 HC HG9 HE9 HR9 hW9 y0 y1 y2 y3 f1 x0 x1; obtain ⟨y0, y1, y2, y3⟩ := HE10.out.four; have f2 := HE10.out.free 2; have f3 := HE10.out.free 3; obtain ⟨W11, hW11⟩ : ∃ W, (v10.setCell ⟨WX.heap.size, 2, none⟩ (.int .u64 d1)).setCell ⟨WX.heap.size, 3, none⟩ (.int .u64 d2) = W := ⟨_, rfl⟩
        have HG11 : Hid (Gb (fun g => g = w.heap.size + 1) WX W11) := by rw [<- hW11]; exact (HG10.out.after ai 2 _).after ai 3 _
        have HE11 : Hid (Bk W11 WX.heap.size 111 #[.string (ofL t), .bool (decide (x = 1)), .int .u64 d1, .int .u64 d2]) := by rw [<- hW11]; exact (HE10.out.set 2 (.int .u64 d1)).set 3 (.int .u64 d2)
        have HR11 : Hid (Bk W11 (w.heap.size + 1) 117 #[.string (ofL rc), .bool bc]) := by rw [<- hW11]; exact (HR10.out.far (p := ⟨WX.heap.size, 2, none⟩) (by show w.heap.size + 1 ≠ WX.heap.size; omega) _).far (p := ⟨WX.heap.size, 3, none⟩) (by show w.heap.size + 1 ≠ WX.heap.size; omega) _
        have HD11 := ah (hD.out.read HR11.out HG11.out); have HA11 := ah (hA.out.gb HG11.out (by omega)); obtain ⟨u0, u1, u2, u3⟩ := HE11.out.four; obtain ⟨c0, c1, c2, c3, c4, c5, c6, c7, c8⟩ := HD11.out.o.nine; have hs11 : w.heap.size + 3 <= W11.heap.size := HD11.out.lt; clear HG10 HE10 HR10 hD hA
        go_wp2_with (at_builtin; refine oQ (.tmp 53) (.tmp 55) 73 rfl ?_)
        refine aC ?_; refine dJ (base := (w.heap.size + 1 + 1 + 1)) (size := 4) _ rfl (.tmp 53) (.tmp 55) 73 rfl 111 i0 _ 40 Tryz.underlying73 Hi.out Hz0.out Hz1.out Hz2.out rfl (by decide) Aj j cj (flat enC es) rfl ?own_1 (W11.heap.size + 1) _ 1 _ (enC ⟨ofL t, decide (x = 1), (d1, d2)⟩) rfl ?nw_1 (by simp [enC, Value.oneCell']) ?m1_1 ?m2_1 ?m3_1 ?_
        case own_1 => exact HA11.out.below ((Below.refl _ W11).alloc ai _)
        case nw_1 =>
         have := Sl.of_bk (n := 1) (size := 4) (Bk.new W11 111 #[.string (ofL t), .bool (decide (x = 1)), .int .u64 d1, .int .u64 d2]) rfl; rw [World.size_alloc] at this; exact this
        case m1_1 => unfold maxLen; omega
        case m2_1 => omega
        case m3_1 => simp; omega
        intro A4 c4' w4 ha4 hb4 hn4 hm4 hok4; have HA4 : Hid (Apd w4 (w.heap.size + 1 + 1 + 1) 111 4 A4 (j + 1) c4' (flat enC (es ++ [⟨ofL t, decide (x = 1), (d1, d2)⟩]))) := by
         show Apd _ _ _ _ _ _ _ _; rw [bT]
         simpa [flat] using ha4
        have hbo : Below (w.heap.size + 3) W11 w4 := ((Below.refl (w.heap.size + 3) W11).alloc (by omega) _).trans hb4; have HD4 := ah (HD11.out.below hbo); clear ha4 hb4 hok4 hbo HD11 HA11 HE11 HR11 HG11 hW11 c0 c1 c2 c3 c4 c5 c6 c7 c8 y0 y1 y2 y3 f2 f3 u0 u1 u2 u3; obtain ⟨c0, c1, c2, c3, c4, c5, c6, c7, c8⟩ := HD4.out.o.nine; have f2 := HD4.out.o.free 2; have HD12 := ah (HD4.out.set 2 (.slice A4 (j + 1) c4')); go_wp2_with fail; go_roundw
        case rel => exact ⟨j + 1, A4, c4', rc, bc, es ++ [(⟨ofL t, decide (x = 1), (d1, d2)⟩ : Ent)], by go_num, hjr, hn4, hm4, HA4.out.setCell (a := ⟨w.heap.size + 1 + 1, 2, none⟩) (Nat.lt_succ_self _) _, HD12.out, HST.out, HLc.out, HFA.out⟩
        case measure => simp [intOf]; omega
    . have hlz : ¬ (j : Int) < (nn : Int) := by omega
      have HX := ah (wZ hE.out (.inl (by omega))); clear hE hF; have HP : Hid (pz7 (toL s) = (⟨2, ⟨#[]⟩, es, zD, [], ⟨#[]⟩, 0, ⟨#[]⟩⟩, (rj, bj))) := by show _ = _; rw [HP0.out, HQ3.out]; simp only; rw [HX.out]
      have HOK7 : Hid (∀ e ∈ es, e.nm.size <= 1000000 /\ WfD e.dg) := fun e he => by
       have h1 := (qD nn (r3, bad3)).1; rw [HX.out] at h1; have h2 := h1 e he; have h3 := HLN.out _ HL3.out; exact ⟨Nat.le_trans h2.1 h3, h2.2⟩
      have HDX := hD; have hWX : True := trivial; have c0 := True; have c1 := True; have c2 := True; have c3 := True; have c4 := True; have c5 := True; have c6 := True; have c7 := True; have c8 := True; have y0 := True; have y1 := True; have y2 := True; have y3 := True; have y4 := True; have y5 := True; have y6 := True; have y7 := True; have y8 := True; clear x0 x1; have HM : Hid (ObM WX WX.heap.size ⟨2, ⟨#[]⟩, es, zD, [], ⟨#[]⟩, 0, ⟨#[]⟩⟩ ⟨Aj, j, cj, none, 0, 0⟩) := ⟨hA.out.sl, Sl.nil _ _ _ _, hjc, hcm, Nat.le_refl _, Nat.zero_le _⟩
      have HCK := ah (jk ⟨2, ⟨#[]⟩, es, zD, [], ⟨#[]⟩, 0, ⟨#[]⟩⟩ ⟨Aj, j, cj, none, 0, 0⟩ WX.heap.size WX HM.out ai ⟨ja, (fun d h => by cases h), Nat.zero_le _, Nat.zero_le _, Int.le_refl _, by show (0 : Int) <= _; omega, fun e he => (HOK7.out e he).1, fun e he => (HOK7.out e he).2⟩); obtain ⟨op, hop⟩ : ∃ op : Ob, op = ⟨2, ⟨#[]⟩, es, zD, [], ⟨#[]⟩, 0, ⟨#[]⟩⟩ := ⟨_, rfl⟩
      obtain ⟨osl, hosl⟩ : ∃ osl : Osl, osl = ⟨Aj, j, cj, none, 0, 0⟩ := ⟨_, rfl⟩
      have HOP := ah hop; have HOS := ah hosl; rw [<- hop] at HP; rw [<- hop, <- hosl] at HM; obtain ⟨bs, hbs⟩ : ∃ bs, ofL (aB op) = bs := ⟨_, rfl⟩
      have HBAD : Hid ((bj = true ∨ ¬ (OkO op /\ bs = s)) -> ∀ o', OkO o' -> s ≠ ofL (aB o')) := fun h => by
       rcases h with h | h
       . have hp := HP.out
         rw [h] at hp; exact jA hp
       . rw [<- hbs] at h; exact jD HP.out h
      unfold En7 at HCK; rw [<- hop, hbs] at HCK; have HBS := ah hbs; obtain ⟨p, hp⟩ : ∃ p, OkO op = p := ⟨_, rfl⟩
      have HPE := ah hp; rw [hp] at HBAD HCK; rw [hop] at HCK; simp only [obV, obC] at HCK; clear c0 c1 c2 c3 c4 c5 c6 c7 c8; obtain ⟨c0, c1, c2, c3, c4, c5, c6, c7, c8⟩ := HDX.out.o.nine; obtain ⟨x0, x1, _, _⟩ := HDX.out.r.two; clear hop hosl hbs hp HP0 HP; go_wp2_with fail; refine HCK.out.mono ?_; rintro e w8 ⟨hq, hb8⟩; have HD8 := ah (HDX.out.below (hb8.mono HDX.out.lt)); have HM8 := ah ((HM.out.below hb8 ai).more hb8.size); have HA8 := ah (hA.out.below hb8); clear c0 c1 c2 c3 c4 c5 c6 c7 c8 y0 y1 y2 y3 y4 y5 y6 y7 y8 x0 x1 hb8 HCK hWX HM; obtain ⟨c0, c1, c2, c3, c4, c5, c6, c7, c8⟩ := HD8.out.o.nine; obtain ⟨x0, x1, _, _⟩ := HD8.out.r.two; obtain ⟨d0, d1', d2', d3, d4, d5, d6, d7, d8⟩ := HD8.out.z.nine; obtain ⟨g0, g1, g2, g3, g4, g5, g6, g7, g8⟩ := fr9 HD8.out.z; have hne : w.heap.size ≠ w.heap.size + 1 + 1 := by omega
      rcases hq with ⟨hp, rfl⟩ | ⟨hp, z, hz, rfl⟩
      . cases bj with
        | true =>
          have HB := ah (HBAD.out (.inl (by trivial))); clear hp; go_wp2_with fail; refine bodyPost_ret (aX Tryz.results43 rfl (aQ HD8.out.z _ _ _ _ _ _ _ _ _) rfl) rfl ⟨.inr ⟨HB.out, rfl⟩, aP HD8.out.b ai _ _ _ _ _ _ _ _ _⟩
        | false =>
          have l1 : (bs.toList != s.toList) = !(decide (bs = s)) := by rw [<- dx]; rfl
          have l2 := dx bs s; by_cases hbe : bs = s
          . rw [decide_eq_true hbe] at l1 l2
            have HOK := ah hp; have HBE := ah hbe; clear hp hbe; go_wp2_with fail; refine bodyPost_ret (aX Tryz.results43 rfl (aQ HD8.out.z _ _ _ _ _ _ _ _ _) rfl) rfl ⟨.inl ⟨op, osl, by rw [HPE.out]; exact HOK.out, by rw [HBS.out]; exact HBE.out.symm, by rw [HOP.out, HOS.out]; rfl, ?_⟩, aP HD8.out.b ai _ _ _ _ _ _ _ _ _⟩; rw [HOP.out, HOS.out]; exact ⟨(HA8.out.set9 (by omega) _ _ _ _ _ _ _ _ _).sl, Sl.nil _ _ _ _, hjc, hcm, Nat.le_refl _, Nat.zero_le _⟩
          . rw [decide_eq_false hbe] at l1 l2
            have HB := ah (HBAD.out (.inr (fun h => hbe h.2))); clear hp hbe; go_wp2_with fail; refine bodyPost_ret (aX Tryz.results43 rfl (aQ HD8.out.z _ _ _ _ _ _ _ _ _) rfl) rfl ⟨.inr ⟨HB.out, rfl⟩, aP HD8.out.b ai _ _ _ _ _ _ _ _ _⟩
      . have HB := ah (HBAD.out (.inr (fun h => hp h.1)))
        have hzn : (z != 0) = true := by rw [bne_iff_ne]; exact hz
        clear hp hz; cases bj with
        | true =>
          go_wp2_with fail; refine bodyPost_ret (aX Tryz.results43 rfl (aQ HD8.out.z _ _ _ _ _ _ _ _ _) rfl) rfl ⟨.inr ⟨HB.out, rfl⟩, aP HD8.out.b ai _ _ _ _ _ _ _ _ _⟩
        | false =>
          go_wp2_with fail; refine bodyPost_ret (aX Tryz.results43 rfl (aQ HD8.out.z _ _ _ _ _ _ _ _ _) rfl) rfl ⟨.inr ⟨HB.out, rfl⟩, aP HD8.out.b ai _ _ _ _ _ _ _ _ _⟩
 by_cases hk3 : k = 3
 . subst hk3
   have HP0 := ah (Bj hq); have HC2 : Hid (Calls Tryz.prog 65 #[.pointer (some ⟨w.heap.size + 1, 0, none⟩)] W1 (RzE (.int .i64 3) (w.heap.size + 1) (r2, bad2) W1)) := HC1.out; clear HC1 hq
   go_enter Tryz.func43, Tryz.ntmps43
   go_wp2_with fail; rw [HW1.out]; refine HC2.out.mono ?_; rintro e v2 ⟨rfl, hr, hg⟩; have HDv := ah (HD1.out.read hr hg); clear hr hg HC2 HD1 HW1; obtain ⟨y0, y1, y2, y3, y4, y5, y6, y7, y8⟩ := HDv.out.o.nine; have f0 := HDv.out.o.free 0; obtain ⟨W2, hW2⟩ : ∃ W, (v2.setCell ⟨w.heap.size + 1 + 1, 0, none⟩ (.int .i64 3)) = W := ⟨_, rfl⟩
   have HD2 : Hid (DeSt w W2 #[.int .i64 3, .string ⟨#[]⟩, .slice none 0 0, .int .u64 0, .int .u64 0, .slice none 0 0, .string ⟨#[]⟩, .int .i64 0, .string ⟨#[]⟩] r2 bad2) := by rw [<- hW2]; exact (HDv.out.set 0 (.int .i64 3))
   clear HDv; obtain ⟨c0, c1, c2, c3, c4, c5, c6, c7, c8⟩ := HD2.out.o.nine; obtain ⟨⟨⟨d1, d2⟩, r3, bad3⟩, hq⟩ : ∃ q, rg (r2, bad2) = q := ⟨_, rfl⟩
   have HC := ah (nN (w.heap.size + 1) r2 bad2 W2 HD2.out.r (HLN.out _ HL2.out)); have hl := jT (r2, bad2); rw [hq] at HC hl; have HQ3 := ah hq; simp only at HC hl; have HL3 : Hid (r3.length <= (toL s).length) := by have := HL2.out; show _ <= _; omega
   have HE3 := ah hl; clear hq hl; go_wp2_with fail; refine HC.out.mono ?_; rintro e v3 ⟨rfl, hr, hg⟩; simp only [az]; have HDv := ah (HD2.out.read hr hg); clear hr hg HC HD2 hW2 c0 c1 c2 c3 c4 c5 c6 c7 c8 y0 y1 y2 y3 y4 y5 y6 y7 y8; obtain ⟨y0, y1, y2, y3, y4, y5, y6, y7, y8⟩ := HDv.out.o.nine; have f3 := HDv.out.o.free 3; have f4 := HDv.out.o.free 4; obtain ⟨W3, hW3⟩ : ∃ W, ((v3.setCell ⟨w.heap.size + 1 + 1, 3, none⟩ (.int .u64 d1)).setCell ⟨w.heap.size + 1 + 1, 4, none⟩ (.int .u64 d2)) = W := ⟨_, rfl⟩
   have HD3 : Hid (DeSt w W3 #[.int .i64 3, .string ⟨#[]⟩, .slice none 0 0, .int .u64 d1, .int .u64 d2, .slice none 0 0, .string ⟨#[]⟩, .int .i64 0, .string ⟨#[]⟩] r3 bad3) := by rw [<- hW3]; exact ((HDv.out.set 3 (.int .u64 d1)).set 4 (.int .u64 d2))
   clear HDv; obtain ⟨c0, c1, c2, c3, c4, c5, c6, c7, c8⟩ := HD3.out.o.nine; obtain ⟨⟨nn, r4, bad4⟩, hq⟩ : ∃ q, rn (r3, bad3) = q := ⟨_, rfl⟩
   have HC := ah (iD (w.heap.size + 1) r3 bad3 W3 HD3.out.r (HLN.out _ HL3.out)); have hl := gZ (r3, bad3); rw [hq] at HC hl; have HQ4 := ah hq; simp only at HC hl; have HL4 : Hid (r4.length <= (toL s).length) := by have := HL3.out; show _ <= _; omega
   have HE4 := ah hl; clear hq hl; go_wp2_with fail; refine HC.out.mono ?_; rintro e W4 ⟨rfl, hr, hg⟩; have HD4 := ah (HD3.out.read hr hg); clear hr hg HC HD3 hW3 c0 c1 c2 c3 c4 c5 c6 c7 c8 y0 y1 y2 y3 y4 y5 y6 y7 y8; obtain ⟨i0, hi, hz0, hz1, hz2⟩ := info_parts ik; have Hi := ah hi; have Hz0 := ah hz0; have Hz1 := ah hz1; have Hz2 := ah hz2; clear hi hz0 hz1 hz2; have hsl := HS.out; go_wp2_with fail
   go_loopw [10] (fun i wr => ∃ (j : Nat) (Aj : OA) (cj : Nat) (rj : Bytes) (bj : Bool) (es : List Dig), i = .int .i64 (j : Int) /\ j <= 1000001 /\ j <= cj /\ cj <= maxLen /\ Hid (Apd wr (w.heap.size + 1 + 1 + 1) 42 2 Aj j cj (flat dgC es)) /\ Hid (DeSt w wr #[.int .i64 3, .string ⟨#[]⟩, .slice none 0 0, .int .u64 d1, .int .u64 d2, .slice Aj j cj, .string ⟨#[]⟩, .int .i64 0, .string ⟨#[]⟩] rj bj) /\ Hid (rD nn (r4, bad4) = (es ++ (rD (nn - j) (rj, bj)).1, (rD (nn - j) (rj, bj)).2)) /\ Hid (rj.length <= r4.length) /\ Hid (Far j rj bj r4.length)) (fun i _ => nn - (intOf i).toNat)
   case atStart => exact ⟨0, none, 0, r4, bad4, [], rfl, Nat.zero_le _, Nat.le_refl _, Nat.zero_le _, .inr ⟨rfl, rfl, rfl⟩, HD4.out, by show _ = _; simp, Nat.le_refl _, fun _ => by omega⟩
   case round =>
    obtain ⟨j, Aj, cj, rj, bj, es, rfl, hj, hjc, hcm, hA, hD, hE, hrl, hF⟩ := hrel; obtain ⟨WX, hwx⟩ : ∃ wo, wo = wr := ⟨_, rfl⟩
    subst hwx; clear HD4; have HLj : Hid (rj.length <= (toL s).length) := by have := hrl.out; have := HL4.out; show _ <= _; omega
    obtain ⟨x0, x1, _, _⟩ := hD.out.r.two; have zX := hD.out.lt; by_cases hlt : j < nn
    . have hlz : (j : Int) < (nn : Int) := by omega
      cases bj with
      | true =>
        have HX := ah (wU hE.out (.inr rfl)); clear hE hF; have HPW : Hid (∀ d ∈ es, WfD d) := fun e he => by
         have h1 := (qC nn (r4, bad4)).1; rw [HX.out] at h1; exact h1 e he
        have HDX := hD; have HAX := hA; clear hD hA; obtain ⟨⟨ta, r6, bad6⟩, hq⟩ : ∃ q, rt (rj, true) = q := ⟨_, rfl⟩
        have HC := ah (iH (w.heap.size + 1) rj true WX HDX.out.r (HLN.out _ HLj.out)); have hl := gX (rj, true); rw [hq] at HC hl; have HQ6 := ah hq; simp only at HC hl; have HL6 : Hid (r6.length <= (toL s).length) := by have := HLj.out; show _ <= _; omega
        have HE6 := ah hl; clear hq hl; go_wp2_with fail; refine HC.out.mono ?_; rintro e v6 ⟨rfl, hr, hg⟩; have HDv := ah (HDX.out.read hr hg); have HAv := ah (HAX.out.gb hg (by omega)); clear hr hg HC HDX HAX x0 x1; obtain ⟨y0, y1, y2, y3, y4, y5, y6, y7, y8⟩ := HDv.out.o.nine; have f6 := HDv.out.o.free 6; obtain ⟨W6, hW6⟩ : ∃ W, (v6.setCell ⟨w.heap.size + 1 + 1, 6, none⟩ (.string (ofL ta))) = W := ⟨_, rfl⟩
        have HD6 : Hid (DeSt w W6 #[.int .i64 3, .string ⟨#[]⟩, .slice none 0 0, .int .u64 d1, .int .u64 d2, .slice Aj j cj, .string (ofL ta), .int .i64 0, .string ⟨#[]⟩] r6 bad6) := by rw [<- hW6]; exact (HDv.out.set 6 (.string (ofL ta)))
        clear HDv; obtain ⟨c0, c1, c2, c3, c4, c5, c6, c7, c8⟩ := HD6.out.o.nine; have HA6 := ah (HAv.out.setCell (a := ⟨w.heap.size + 1 + 1, 6, none⟩) (Nat.lt_succ_self _) (.string (ofL ta))); rw [hW6] at HA6; clear HAv; obtain ⟨⟨ti, r7, bad7⟩, hq⟩ : ∃ q, rn (r6, bad6) = q := ⟨_, rfl⟩
        have HC := ah (iD (w.heap.size + 1) r6 bad6 W6 HD6.out.r (HLN.out _ HL6.out)); have hl := gZ (r6, bad6); rw [hq] at HC hl; have HQ7 := ah hq; simp only at HC hl; have HL7 : Hid (r7.length <= (toL s).length) := by have := HL6.out; show _ <= _; omega
        have HE7 := ah hl; clear hq hl; go_wp2_with fail; refine HC.out.mono ?_; rintro e v7 ⟨rfl, hr, hg⟩; have HDv := ah (HD6.out.read hr hg); have HAv := ah (HA6.out.gb hg (by omega)); clear hr hg HC HD6 HA6 hW6 c0 c1 c2 c3 c4 c5 c6 c7 c8 y0 y1 y2 y3 y4 y5 y6 y7 y8; obtain ⟨y0, y1, y2, y3, y4, y5, y6, y7, y8⟩ := HDv.out.o.nine; have f7 := HDv.out.o.free 7; obtain ⟨W7, hW7⟩ : ∃ W, (v7.setCell ⟨w.heap.size + 1 + 1, 7, none⟩ (.int .i64 (ti : Int))) = W := ⟨_, rfl⟩
        have HD7 : Hid (DeSt w W7 #[.int .i64 3, .string ⟨#[]⟩, .slice none 0 0, .int .u64 d1, .int .u64 d2, .slice Aj j cj, .string (ofL ta), .int .i64 (ti : Int), .string ⟨#[]⟩] r7 bad7) := by rw [<- hW7]; exact (HDv.out.set 7 (.int .i64 (ti : Int)))
        clear HDv; obtain ⟨c0, c1, c2, c3, c4, c5, c6, c7, c8⟩ := HD7.out.o.nine; have HA7 := ah (HAv.out.setCell (a := ⟨w.heap.size + 1 + 1, 7, none⟩) (Nat.lt_succ_self _) (.int .i64 (ti : Int))); rw [hW7] at HA7; clear HAv; obtain ⟨⟨tm, r8, bad8⟩, hq⟩ : ∃ q, rt (r7, bad7) = q := ⟨_, rfl⟩
        have HC := ah (iH (w.heap.size + 1) r7 bad7 W7 HD7.out.r (HLN.out _ HL7.out)); have hl := gX (r7, bad7); rw [hq] at HC hl; have HQ8 := ah hq; simp only at HC hl; have HL8 : Hid (r8.length <= (toL s).length) := by have := HL7.out; show _ <= _; omega
        have HE8 := ah hl; clear hq hl; go_wp2_with fail; refine HC.out.mono ?_; rintro e v8 ⟨rfl, hr, hg⟩; have HDv := ah (HD7.out.read hr hg); have HAv := ah (HA7.out.gb hg (by omega)); clear hr hg HC HD7 HA7 hW7 c0 c1 c2 c3 c4 c5 c6 c7 c8 y0 y1 y2 y3 y4 y5 y6 y7 y8; obtain ⟨y0, y1, y2, y3, y4, y5, y6, y7, y8⟩ := HDv.out.o.nine; have f8 := HDv.out.o.free 8; obtain ⟨W8, hW8⟩ : ∃ W, (v8.setCell ⟨w.heap.size + 1 + 1, 8, none⟩ (.string (ofL tm))) = W := ⟨_, rfl⟩
        have HD8 : Hid (DeSt w W8 #[.int .i64 3, .string ⟨#[]⟩, .slice none 0 0, .int .u64 d1, .int .u64 d2, .slice Aj j cj, .string (ofL ta), .int .i64 (ti : Int), .string (ofL tm)] r8 bad8) := by rw [<- hW8]; exact (HDv.out.set 8 (.string (ofL tm)))
        clear HDv; obtain ⟨c0, c1, c2, c3, c4, c5, c6, c7, c8⟩ := HD8.out.o.nine; have HA8 := ah (HAv.out.setCell (a := ⟨w.heap.size + 1 + 1, 8, none⟩) (Nat.lt_succ_self _) (.string (ofL tm))); rw [hW8] at HA8; clear HAv; have HP : Hid (pz7 (toL s) = (⟨3, ⟨#[]⟩, [], (d1, d2), es, ofL ta, (ti : Int), ofL tm⟩, (r8, bad8))) := by
         show _ = _; rw [HP0.out]; simp only [HQ3.out, HQ4.out, HX.out, HQ6.out, HQ7.out, HQ8.out]
        have hla : (ofL ta).size <= 1000000 := by have h1 := HE6.out.2; have h2 := HLN.out _ HLj.out; rw [bN]; omega
        have hlm : (ofL tm).size <= 1000000 := by have h1 := HE8.out.2; have h2 := HLN.out _ HL7.out; rw [bN]; omega
        have hlt0 : ti <= 1099511627776 := HE7.out.2; have HWD : Hid (WfD (d1, d2)) := HE3.out.2; have HM : Hid (ObM W8 W8.heap.size ⟨3, ⟨#[]⟩, [], (d1, d2), es, ofL ta, (ti : Int), ofL tm⟩ ⟨none, 0, 0, Aj, j, cj⟩) := ⟨Sl.nil _ _ _ _, HA8.out.sl, Nat.le_refl _, Nat.zero_le _, hjc, hcm⟩
        have HCK := ah (jk ⟨3, ⟨#[]⟩, [], (d1, d2), es, ofL ta, (ti : Int), ofL tm⟩ ⟨none, 0, 0, Aj, j, cj⟩ W8.heap.size W8 HM.out ai ⟨HWD.out, HPW.out, hla, hlm, by show (0 : Int) <= (ti : Int); omega, by show (ti : Int) <= _; omega, (fun e h => by cases h), (fun e h => by cases h)⟩); obtain ⟨op, hop⟩ : ∃ op : Ob, op = ⟨3, ⟨#[]⟩, [], (d1, d2), es, ofL ta, (ti : Int), ofL tm⟩ := ⟨_, rfl⟩
        obtain ⟨osl, hosl⟩ : ∃ osl : Osl, osl = ⟨none, 0, 0, Aj, j, cj⟩ := ⟨_, rfl⟩
        have HOP := ah hop; have HOS := ah hosl; rw [<- hop] at HP; rw [<- hop, <- hosl] at HM; obtain ⟨bs, hbs⟩ : ∃ bs, ofL (aB op) = bs := ⟨_, rfl⟩
        have HBAD : Hid ((bad8 = true ∨ ¬ (OkO op /\ bs = s)) -> ∀ o', OkO o' -> s ≠ ofL (aB o')) := fun h => by
         rcases h with h | h
         . have hp := HP.out
           rw [h] at hp; exact jA hp
         . rw [<- hbs] at h; exact jD HP.out h
        unfold En7 at HCK; rw [<- hop, hbs] at HCK; have HBS := ah hbs; obtain ⟨p, hp⟩ : ∃ p, OkO op = p := ⟨_, rfl⟩
        have HPE := ah hp; rw [hp] at HBAD HCK; rw [hop] at HCK; simp only [obV, obC] at HCK; clear c0 c1 c2 c3 c4 c5 c6 c7 c8; obtain ⟨c0, c1, c2, c3, c4, c5, c6, c7, c8⟩ := HD8.out.o.nine; obtain ⟨x0, x1, _, _⟩ := HD8.out.r.two; clear hop hosl hbs hp HP0 HP; go_wp2_with fail; refine HCK.out.mono ?_; rintro e w8 ⟨hq, hb8⟩; have HD9 := ah (HD8.out.below (hb8.mono HD8.out.lt)); have HM8 := ah ((HM.out.below hb8 ai).more hb8.size); have HA9 := ah (HA8.out.below hb8); clear c0 c1 c2 c3 c4 c5 c6 c7 c8 y0 y1 y2 y3 y4 y5 y6 y7 y8 x0 x1 hb8 HCK hW8 HM; obtain ⟨c0, c1, c2, c3, c4, c5, c6, c7, c8⟩ := HD9.out.o.nine; obtain ⟨x0, x1, _, _⟩ := HD9.out.r.two; obtain ⟨d0, d1', d2', d3, d4, d5, d6, d7, d8⟩ := HD9.out.z.nine; obtain ⟨g0, g1, g2, g3, g4, g5, g6, g7, g8⟩ := fr9 HD9.out.z; have hne : w.heap.size ≠ w.heap.size + 1 + 1 := by omega
        rcases hq with ⟨hp, rfl⟩ | ⟨hp, z, hz, rfl⟩
        . cases bad8 with
          | true =>
            have HB := ah (HBAD.out (.inl (by trivial))); clear hp; go_wp2_with fail; refine bodyPost_ret (aX Tryz.results43 rfl (aQ HD9.out.z _ _ _ _ _ _ _ _ _) rfl) rfl ⟨.inr ⟨HB.out, rfl⟩, aP HD9.out.b ai _ _ _ _ _ _ _ _ _⟩
          | false =>
            have l1 : (bs.toList != s.toList) = !(decide (bs = s)) := by rw [<- dx]; rfl
            have l2 := dx bs s; by_cases hbe : bs = s
            . rw [decide_eq_true hbe] at l1 l2
              have HOK := ah hp; have HBE := ah hbe; clear hp hbe; go_wp2_with fail; refine bodyPost_ret (aX Tryz.results43 rfl (aQ HD9.out.z _ _ _ _ _ _ _ _ _) rfl) rfl ⟨.inl ⟨op, osl, by rw [HPE.out]; exact HOK.out, by rw [HBS.out]; exact HBE.out.symm, by rw [HOP.out, HOS.out]; rfl, ?_⟩, aP HD9.out.b ai _ _ _ _ _ _ _ _ _⟩; rw [HOP.out, HOS.out]; exact ⟨Sl.nil _ _ _ _, (HA9.out.set9 (by omega) _ _ _ _ _ _ _ _ _).sl, Nat.le_refl _, Nat.zero_le _, hjc, hcm⟩
            . rw [decide_eq_false hbe] at l1 l2
              have HB := ah (HBAD.out (.inr (fun h => hbe h.2))); clear hp hbe; go_wp2_with fail; refine bodyPost_ret (aX Tryz.results43 rfl (aQ HD9.out.z _ _ _ _ _ _ _ _ _) rfl) rfl ⟨.inr ⟨HB.out, rfl⟩, aP HD9.out.b ai _ _ _ _ _ _ _ _ _⟩
        . have HB := ah (HBAD.out (.inr (fun h => hp h.1)))
          have hzn : (z != 0) = true := by rw [bne_iff_ne]; exact hz
          clear hp hz; cases bad8 with
          | true =>
            go_wp2_with fail; refine bodyPost_ret (aX Tryz.results43 rfl (aQ HD9.out.z _ _ _ _ _ _ _ _ _) rfl) rfl ⟨.inr ⟨HB.out, rfl⟩, aP HD9.out.b ai _ _ _ _ _ _ _ _ _⟩
          | false =>
            go_wp2_with fail; refine bodyPost_ret (aX Tryz.results43 rfl (aQ HD9.out.z _ _ _ _ _ _ _ _ _) rfl) rfl ⟨.inr ⟨HB.out, rfl⟩, aP HD9.out.b ai _ _ _ _ _ _ _ _ _⟩
      | false =>
        have hjr : j + 1 <= 1000001 := by have h1 := hF.out rfl; have h2 := HLN.out _ HL4.out; omega
        obtain ⟨⟨⟨p1, p2⟩, rc, bc⟩, hqc⟩ : ∃ q, rg (rj, false) = q := ⟨_, rfl⟩
        have hlc := jT (rj, false); rw [hqc] at hlc; simp only at hlc; have HST := ah (Eg hE.out hlt hqc); have HFA : Hid (Far (j + 1) rc bc r4.length) := hF.out.step rfl hqc ai; have HLc : Hid (rc.length <= r4.length) := by show _ <= _; have := hrl.out; omega
        have HC := ah (nN (w.heap.size + 1) rj false WX.drew hD.out.r (HLN.out _ HLj.out)); rw [hqc] at HC; simp only [az] at HC; obtain ⟨c0, c1, c2, c3, c4, c5, c6, c7, c8⟩ := hD.out.o.nine; have HJ1 : Hid (j + 1 <= maxLen) := by show _ <= _; unfold maxLen; omega
        have HJ2 : Hid ((j + 1) * 16 <= 140737488355328) := by show _ <= _; omega
        have HON : Hid (∀ u ∈ dgC (p1, p2), u.oneCell' = true) := by intro u hu; simp [dgC] at hu; rcases hu with rfl | rfl <;> rfl
        clear hqc hlc hE hF hrl; go_wp2_with fail
        go_region_law
         (first
           | (go_simp; go_at_call 67; refine HC.out.mono ?_; rintro e w2 ⟨rfl, hr2, hg2'⟩
              have hg2 := (Gb.of_below (p := fun g => g = w.heap.size + 1) ((Below.refl WX.heap.size WX).drew)).trans hg2'; have HD2 := ah (hD.out.read hr2 hg2); have HA2 := ah (hA.out.gb hg2 (by omega)); have y5 := HD2.out.o.nine.2.2.2.2.2.1; have y5a := (HD2.out.o.alloc (.cells #[.int .u64 p1, .int .u64 p2] 42)).nine.2.2.2.2.2.1; have z2 : WX.heap.size <= w2.heap.size := hg2.size; clear hr2 hg2 hg2')
           | (refine yS (by rfl) (.tmp 78) (.tmp 81) 24 (by rfl) (w.heap.size + 1 + 1 + 1) 42 i0 _ 2 16 Tryz.underlying24 Hi.out Hz0.out Hz1.out Hz2.out rfl (by decide) Aj j cj (flat dgC es) (by rfl) (HA2.out.below ((Below.refl _ _).alloc ai _)) _ (some ⟨w2.heap.size, 0, none⟩) 1 1 (dgC (p1, p2)) (by rfl) (Sl.of_bk (n := 1) (size := 2) (Bk.new w2 42 #[.int .u64 p1, .int .u64 p2]) rfl) HON.out HJ1.out HJ2.out (Nat.le_trans HD2.out.lt (Nat.le_of_lt (by simp))) ?_
              intro A4 c4' w4 ha4 hb4 hn4 hm4; have HA4 := ah ha4; have HB4 : Hid (Below (w.heap.size + 3) w2 w4) := ((Below.refl (w.heap.size + 3) w2).alloc (by omega) _).trans hb4; have HD4 := ah (HD2.out.below HB4.out); have y5 := HD4.out.o.nine.2.2.2.2.2.1; have f5 := HD4.out.o.free 5; clear ha4 hb4))
        all_goals
         have HA5 : Hid (Apd w4 (w.heap.size + 1 + 1 + 1) 42 2 A4 (j + 1) c4' (flat dgC (es ++ [((p1, p2) : Dig)]))) := by
          show Apd _ _ _ _ _ _ _ _; rw [bT]; simpa [flat] using HA4.out
         have HD5 := ah (HD4.out.set 5 (.slice A4 (j + 1) c4')); clear c0 c1 c2 c3 c4 c5 c6 c7 c8; go_wp2_with fail; go_roundw
         case rel => exact ⟨j + 1, A4, c4', rc, bc, es ++ [((p1, p2) : Dig)], by go_num, hjr, hn4, hm4, HA5.out.setCell (a := ⟨w.heap.size + 1 + 1, 5, none⟩) (Nat.lt_succ_self _) _, HD5.out, HST.out, HLc.out, HFA.out⟩
         case measure => simp [intOf]; omega
    . have hlz : ¬ (j : Int) < (nn : Int) := by omega
      have HX := ah (wU hE.out (.inl (by omega))); clear hE hF; have HPW : Hid (∀ d ∈ es, WfD d) := fun e he => by
       have h1 := (qC nn (r4, bad4)).1; rw [HX.out] at h1; exact h1 e he
      have HDX := hD; have HAX := hA; clear hD hA; obtain ⟨⟨ta, r6, bad6⟩, hq⟩ : ∃ q, rt (rj, bj) = q := ⟨_, rfl⟩
      have HC := ah (iH (w.heap.size + 1) rj bj WX HDX.out.r (HLN.out _ HLj.out)); have hl := gX (rj, bj); rw [hq] at HC hl; have HQ6 := ah hq; simp only at HC hl; have HL6 : Hid (r6.length <= (toL s).length) := by have := HLj.out; show _ <= _; omega
      have HE6 := ah hl; clear hq hl; go_wp2_with fail; refine HC.out.mono ?_; rintro e v6 ⟨rfl, hr, hg⟩; have HDv := ah (HDX.out.read hr hg); have HAv := ah (HAX.out.gb hg (by omega)); clear hr hg HC HDX HAX x0 x1; obtain ⟨y0, y1, y2, y3, y4, y5, y6, y7, y8⟩ := HDv.out.o.nine; have f6 := HDv.out.o.free 6; obtain ⟨W6, hW6⟩ : ∃ W, (v6.setCell ⟨w.heap.size + 1 + 1, 6, none⟩ (.string (ofL ta))) = W := ⟨_, rfl⟩
      have HD6 : Hid (DeSt w W6 #[.int .i64 3, .string ⟨#[]⟩, .slice none 0 0, .int .u64 d1, .int .u64 d2, .slice Aj j cj, .string (ofL ta), .int .i64 0, .string ⟨#[]⟩] r6 bad6) := by rw [<- hW6]; exact (HDv.out.set 6 (.string (ofL ta)))
      clear HDv; obtain ⟨c0, c1, c2, c3, c4, c5, c6, c7, c8⟩ := HD6.out.o.nine; have HA6 := ah (HAv.out.setCell (a := ⟨w.heap.size + 1 + 1, 6, none⟩) (Nat.lt_succ_self _) (.string (ofL ta))); rw [hW6] at HA6; clear HAv; obtain ⟨⟨ti, r7, bad7⟩, hq⟩ : ∃ q, rn (r6, bad6) = q := ⟨_, rfl⟩
      have HC := ah (iD (w.heap.size + 1) r6 bad6 W6 HD6.out.r (HLN.out _ HL6.out)); have hl := gZ (r6, bad6); rw [hq] at HC hl; have HQ7 := ah hq; simp only at HC hl; have HL7 : Hid (r7.length <= (toL s).length) := by have := HL6.out; show _ <= _; omega
      have HE7 := ah hl; clear hq hl; go_wp2_with fail; refine HC.out.mono ?_; rintro e v7 ⟨rfl, hr, hg⟩; have HDv := ah (HD6.out.read hr hg); have HAv := ah (HA6.out.gb hg (by omega)); clear hr hg HC HD6 HA6 hW6 c0 c1 c2 c3 c4 c5 c6 c7 c8 y0 y1 y2 y3 y4 y5 y6 y7 y8; obtain ⟨y0, y1, y2, y3, y4, y5, y6, y7, y8⟩ := HDv.out.o.nine; have f7 := HDv.out.o.free 7; obtain ⟨W7, hW7⟩ : ∃ W, (v7.setCell ⟨w.heap.size + 1 + 1, 7, none⟩ (.int .i64 (ti : Int))) = W := ⟨_, rfl⟩
      have HD7 : Hid (DeSt w W7 #[.int .i64 3, .string ⟨#[]⟩, .slice none 0 0, .int .u64 d1, .int .u64 d2, .slice Aj j cj, .string (ofL ta), .int .i64 (ti : Int), .string ⟨#[]⟩] r7 bad7) := by rw [<- hW7]; exact (HDv.out.set 7 (.int .i64 (ti : Int)))
      clear HDv; obtain ⟨c0, c1, c2, c3, c4, c5, c6, c7, c8⟩ := HD7.out.o.nine; have HA7 := ah (HAv.out.setCell (a := ⟨w.heap.size + 1 + 1, 7, none⟩) (Nat.lt_succ_self _) (.int .i64 (ti : Int))); rw [hW7] at HA7; clear HAv; obtain ⟨⟨tm, r8, bad8⟩, hq⟩ : ∃ q, rt (r7, bad7) = q := ⟨_, rfl⟩
      have HC := ah (iH (w.heap.size + 1) r7 bad7 W7 HD7.out.r (HLN.out _ HL7.out)); have hl := gX (r7, bad7); rw [hq] at HC hl; have HQ8 := ah hq; simp only at HC hl; have HL8 : Hid (r8.length <= (toL s).length) := by have := HL7.out; show _ <= _; omega
      have HE8 := ah hl; clear hq hl; go_wp2_with fail; refine HC.out.mono ?_; rintro e v8 ⟨rfl, hr, hg⟩; have HDv := ah (HD7.out.read hr hg); have HAv := ah (HA7.out.gb hg (by omega)); clear hr hg HC HD7 HA7 hW7 c0 c1 c2 c3 c4 c5 c6 c7 c8 y0 y1 y2 y3 y4 y5 y6 y7 y8; obtain ⟨y0, y1, y2, y3, y4, y5, y6, y7, y8⟩ := HDv.out.o.nine; have f8 := HDv.out.o.free 8; obtain ⟨W8, hW8⟩ : ∃ W, (v8.setCell ⟨w.heap.size + 1 + 1, 8, none⟩ (.string (ofL tm))) = W := ⟨_, rfl⟩
      have HD8 : Hid (DeSt w W8 #[.int .i64 3, .string ⟨#[]⟩, .slice none 0 0, .int .u64 d1, .int .u64 d2, .slice Aj j cj, .string (ofL ta), .int .i64 (ti : Int), .string (ofL tm)] r8 bad8) := by rw [<- hW8]; exact (HDv.out.set 8 (.string (ofL tm)))
      clear HDv; obtain ⟨c0, c1, c2, c3, c4, c5, c6, c7, c8⟩ := HD8.out.o.nine; have HA8 := ah (HAv.out.setCell (a := ⟨w.heap.size + 1 + 1, 8, none⟩) (Nat.lt_succ_self _) (.string (ofL tm))); rw [hW8] at HA8; clear HAv; have HP : Hid (pz7 (toL s) = (⟨3, ⟨#[]⟩, [], (d1, d2), es, ofL ta, (ti : Int), ofL tm⟩, (r8, bad8))) := by
       show _ = _; rw [HP0.out]; simp only [HQ3.out, HQ4.out, HX.out, HQ6.out, HQ7.out, HQ8.out]
      have hla : (ofL ta).size <= 1000000 := by have h1 := HE6.out.2; have h2 := HLN.out _ HLj.out; rw [bN]; omega
      have hlm : (ofL tm).size <= 1000000 := by have h1 := HE8.out.2; have h2 := HLN.out _ HL7.out; rw [bN]; omega
      have hlt0 : ti <= 1099511627776 := HE7.out.2; have HWD : Hid (WfD (d1, d2)) := HE3.out.2; have HM : Hid (ObM W8 W8.heap.size ⟨3, ⟨#[]⟩, [], (d1, d2), es, ofL ta, (ti : Int), ofL tm⟩ ⟨none, 0, 0, Aj, j, cj⟩) := ⟨Sl.nil _ _ _ _, HA8.out.sl, Nat.le_refl _, Nat.zero_le _, hjc, hcm⟩
      have HCK := ah (jk ⟨3, ⟨#[]⟩, [], (d1, d2), es, ofL ta, (ti : Int), ofL tm⟩ ⟨none, 0, 0, Aj, j, cj⟩ W8.heap.size W8 HM.out ai ⟨HWD.out, HPW.out, hla, hlm, by show (0 : Int) <= (ti : Int); omega, by show (ti : Int) <= _; omega, (fun e h => by cases h), (fun e h => by cases h)⟩); obtain ⟨op, hop⟩ : ∃ op : Ob, op = ⟨3, ⟨#[]⟩, [], (d1, d2), es, ofL ta, (ti : Int), ofL tm⟩ := ⟨_, rfl⟩
      obtain ⟨osl, hosl⟩ : ∃ osl : Osl, osl = ⟨none, 0, 0, Aj, j, cj⟩ := ⟨_, rfl⟩
      have HOP := ah hop; have HOS := ah hosl; rw [<- hop] at HP; rw [<- hop, <- hosl] at HM; obtain ⟨bs, hbs⟩ : ∃ bs, ofL (aB op) = bs := ⟨_, rfl⟩
      have HBAD : Hid ((bad8 = true ∨ ¬ (OkO op /\ bs = s)) -> ∀ o', OkO o' -> s ≠ ofL (aB o')) := fun h => by
       rcases h with h | h
       . have hp := HP.out
         rw [h] at hp; exact jA hp
       . rw [<- hbs] at h; exact jD HP.out h
      unfold En7 at HCK; rw [<- hop, hbs] at HCK; have HBS := ah hbs; obtain ⟨p, hp⟩ : ∃ p, OkO op = p := ⟨_, rfl⟩
      have HPE := ah hp; rw [hp] at HBAD HCK; rw [hop] at HCK; simp only [obV, obC] at HCK; clear c0 c1 c2 c3 c4 c5 c6 c7 c8; obtain ⟨c0, c1, c2, c3, c4, c5, c6, c7, c8⟩ := HD8.out.o.nine; obtain ⟨x0, x1, _, _⟩ := HD8.out.r.two; clear hop hosl hbs hp HP0 HP; go_wp2_with fail; refine HCK.out.mono ?_; rintro e w8 ⟨hq, hb8⟩; have HD9 := ah (HD8.out.below (hb8.mono HD8.out.lt)); have HM8 := ah ((HM.out.below hb8 ai).more hb8.size); have HA9 := ah (HA8.out.below hb8); clear c0 c1 c2 c3 c4 c5 c6 c7 c8 y0 y1 y2 y3 y4 y5 y6 y7 y8 x0 x1 hb8 HCK hW8 HM; obtain ⟨c0, c1, c2, c3, c4, c5, c6, c7, c8⟩ := HD9.out.o.nine; obtain ⟨x0, x1, _, _⟩ := HD9.out.r.two; obtain ⟨d0, d1', d2', d3, d4, d5, d6, d7, d8⟩ := HD9.out.z.nine; obtain ⟨g0, g1, g2, g3, g4, g5, g6, g7, g8⟩ := fr9 HD9.out.z; have hne : w.heap.size ≠ w.heap.size + 1 + 1 := by omega
      rcases hq with ⟨hp, rfl⟩ | ⟨hp, z, hz, rfl⟩
      . cases bad8 with
        | true =>
          have HB := ah (HBAD.out (.inl (by trivial))); clear hp; go_wp2_with fail; refine bodyPost_ret (aX Tryz.results43 rfl (aQ HD9.out.z _ _ _ _ _ _ _ _ _) rfl) rfl ⟨.inr ⟨HB.out, rfl⟩, aP HD9.out.b ai _ _ _ _ _ _ _ _ _⟩
        | false =>
          have l1 : (bs.toList != s.toList) = !(decide (bs = s)) := by rw [<- dx]; rfl
          have l2 := dx bs s; by_cases hbe : bs = s
          . rw [decide_eq_true hbe] at l1 l2
            have HOK := ah hp; have HBE := ah hbe; clear hp hbe; go_wp2_with fail; refine bodyPost_ret (aX Tryz.results43 rfl (aQ HD9.out.z _ _ _ _ _ _ _ _ _) rfl) rfl ⟨.inl ⟨op, osl, by rw [HPE.out]; exact HOK.out, by rw [HBS.out]; exact HBE.out.symm, by rw [HOP.out, HOS.out]; rfl, ?_⟩, aP HD9.out.b ai _ _ _ _ _ _ _ _ _⟩; rw [HOP.out, HOS.out]; exact ⟨Sl.nil _ _ _ _, (HA9.out.set9 (by omega) _ _ _ _ _ _ _ _ _).sl, Nat.le_refl _, Nat.zero_le _, hjc, hcm⟩
          . rw [decide_eq_false hbe] at l1 l2
            have HB := ah (HBAD.out (.inr (fun h => hbe h.2))); clear hp hbe; go_wp2_with fail; refine bodyPost_ret (aX Tryz.results43 rfl (aQ HD9.out.z _ _ _ _ _ _ _ _ _) rfl) rfl ⟨.inr ⟨HB.out, rfl⟩, aP HD9.out.b ai _ _ _ _ _ _ _ _ _⟩
      . have HB := ah (HBAD.out (.inr (fun h => hp h.1)))
        have hzn : (z != 0) = true := by rw [bne_iff_ne]; exact hz
        clear hp hz; cases bad8 with
        | true =>
          go_wp2_with fail; refine bodyPost_ret (aX Tryz.results43 rfl (aQ HD9.out.z _ _ _ _ _ _ _ _ _) rfl) rfl ⟨.inr ⟨HB.out, rfl⟩, aP HD9.out.b ai _ _ _ _ _ _ _ _ _⟩
        | false =>
          go_wp2_with fail; refine bodyPost_ret (aX Tryz.results43 rfl (aQ HD9.out.z _ _ _ _ _ _ _ _ _) rfl) rfl ⟨.inr ⟨HB.out, rfl⟩, aP HD9.out.b ai _ _ _ _ _ _ _ _ _⟩
 . have HP0 := ah (BP hq hk2 hk3)
   have hkz2 : ((k : Int) == 2) = false := by rw [beq_eq_false_iff_ne]; omega
   have hkz3 : ((k : Int) == 3) = false := by rw [beq_eq_false_iff_ne]; omega
   have HC2 : Hid (Calls Tryz.prog 65 #[.pointer (some ⟨w.heap.size + 1, 0, none⟩)] W1 (RzE (.int .i64 (k : Int)) (w.heap.size + 1) (r2, bad2) W1)) := HC1.out; clear HC1 hq
   go_enter Tryz.func43, Tryz.ntmps43
   go_wp2_with fail; rw [HW1.out]; refine HC2.out.mono ?_; rintro e v2 ⟨rfl, hr, hg⟩; have HDv := ah (HD1.out.read hr hg); clear hr hg HC2 HD1 HW1; obtain ⟨y0, y1, y2, y3, y4, y5, y6, y7, y8⟩ := HDv.out.o.nine; have f0 := HDv.out.o.free 0; obtain ⟨W2, hW2⟩ : ∃ W, (v2.setCell ⟨w.heap.size + 1 + 1, 0, none⟩ (.int .i64 (k : Int))) = W := ⟨_, rfl⟩
   have HD2 : Hid (DeSt w W2 #[.int .i64 (k : Int), .string ⟨#[]⟩, .slice none 0 0, .int .u64 0, .int .u64 0, .slice none 0 0, .string ⟨#[]⟩, .int .i64 0, .string ⟨#[]⟩] r2 bad2) := by rw [<- hW2]; exact (HDv.out.set 0 (.int .i64 (k : Int)))
   clear HDv; obtain ⟨c0, c1, c2, c3, c4, c5, c6, c7, c8⟩ := HD2.out.o.nine; obtain ⟨⟨t, r3, bad3⟩, hq⟩ : ∃ q, rt (r2, bad2) = q := ⟨_, rfl⟩
   have HC := ah (iH (w.heap.size + 1) r2 bad2 W2 HD2.out.r (HLN.out _ HL2.out)); have hl := gX (r2, bad2); rw [hq] at HC hl; have HQ3 := ah hq; simp only at HC hl; have HL3 : Hid (r3.length <= (toL s).length) := by have := HL2.out; show _ <= _; omega
   have HE3 := ah hl; clear hq hl; go_wp2_with fail; refine HC.out.mono ?_; rintro e v3 ⟨rfl, hr, hg⟩; have HDv := ah (HD2.out.read hr hg); clear hr hg HC HD2 hW2 c0 c1 c2 c3 c4 c5 c6 c7 c8 y0 y1 y2 y3 y4 y5 y6 y7 y8; obtain ⟨y0, y1, y2, y3, y4, y5, y6, y7, y8⟩ := HDv.out.o.nine; have f1 := HDv.out.o.free 1; obtain ⟨W3, hW3⟩ : ∃ W, (v3.setCell ⟨w.heap.size + 1 + 1, 1, none⟩ (.string (ofL t))) = W := ⟨_, rfl⟩
   have HD3 : Hid (DeSt w W3 #[.int .i64 (k : Int), .string (ofL t), .slice none 0 0, .int .u64 0, .int .u64 0, .slice none 0 0, .string ⟨#[]⟩, .int .i64 0, .string ⟨#[]⟩] r3 bad3) := by rw [<- hW3]; exact (HDv.out.set 1 (.string (ofL t)))
   clear HDv; obtain ⟨c0, c1, c2, c3, c4, c5, c6, c7, c8⟩ := HD3.out.o.nine; have HP : Hid (pz7 (toL s) = (⟨(k : Int), ofL t, [], zD, [], ⟨#[]⟩, 0, ⟨#[]⟩⟩, (r3, bad3))) := by show _ = _; rw [HP0.out, HQ3.out]
   have HM : Hid (ObM W3 W3.heap.size ⟨(k : Int), ofL t, [], zD, [], ⟨#[]⟩, 0, ⟨#[]⟩⟩ ⟨none, 0, 0, none, 0, 0⟩) := ⟨Sl.nil _ _ _ _, Sl.nil _ _ _ _, Nat.le_refl _, Nat.zero_le _, Nat.le_refl _, Nat.zero_le _⟩
   have HCK := ah (jk ⟨(k : Int), ofL t, [], zD, [], ⟨#[]⟩, 0, ⟨#[]⟩⟩ ⟨none, 0, 0, none, 0, 0⟩ W3.heap.size W3 HM.out ai ⟨ja, (fun d h => by cases h), Nat.zero_le _, Nat.zero_le _, Int.le_refl _, by show (0 : Int) <= _; omega, (fun e h => by cases h), (fun e h => by cases h)⟩); obtain ⟨op, hop⟩ : ∃ op : Ob, op = ⟨(k : Int), ofL t, [], zD, [], ⟨#[]⟩, 0, ⟨#[]⟩⟩ := ⟨_, rfl⟩
   obtain ⟨osl, hosl⟩ : ∃ osl : Osl, osl = ⟨none, 0, 0, none, 0, 0⟩ := ⟨_, rfl⟩
   have HOP := ah hop; have HOS := ah hosl; rw [<- hop] at HP; rw [<- hop, <- hosl] at HM; obtain ⟨bs, hbs⟩ : ∃ bs, ofL (aB op) = bs := ⟨_, rfl⟩
   have HBAD : Hid ((bad3 = true ∨ ¬ (OkO op /\ bs = s)) -> ∀ o', OkO o' -> s ≠ ofL (aB o')) := fun h => by
    rcases h with h | h
    . have hp := HP.out
      rw [h] at hp; exact jA hp
    . rw [<- hbs] at h; exact jD HP.out h
   unfold En7 at HCK; rw [<- hop, hbs] at HCK; have HBS := ah hbs; obtain ⟨p, hp⟩ : ∃ p, OkO op = p := ⟨_, rfl⟩
   have HPE := ah hp; rw [hp] at HBAD HCK; rw [hop] at HCK; simp only [obV, obC] at HCK; clear c0 c1 c2 c3 c4 c5 c6 c7 c8; obtain ⟨c0, c1, c2, c3, c4, c5, c6, c7, c8⟩ := HD3.out.o.nine; obtain ⟨x0, x1, _, _⟩ := HD3.out.r.two; clear hop hosl hbs hp HP0 HP; go_wp2_with fail; refine HCK.out.mono ?_; rintro e w8 ⟨hq, hb8⟩; have HD8 := ah (HD3.out.below (hb8.mono HD3.out.lt)); have HM8 := ah ((HM.out.below hb8 ai).more hb8.size); clear c0 c1 c2 c3 c4 c5 c6 c7 c8 y0 y1 y2 y3 y4 y5 y6 y7 y8 x0 x1 hb8 HCK hW3 HM; obtain ⟨c0, c1, c2, c3, c4, c5, c6, c7, c8⟩ := HD8.out.o.nine; obtain ⟨x0, x1, _, _⟩ := HD8.out.r.two; obtain ⟨d0, d1', d2', d3, d4, d5, d6, d7, d8⟩ := HD8.out.z.nine; obtain ⟨g0, g1, g2, g3, g4, g5, g6, g7, g8⟩ := fr9 HD8.out.z; have hne : w.heap.size ≠ w.heap.size + 1 + 1 := by omega
   rcases hq with ⟨hp, rfl⟩ | ⟨hp, z, hz, rfl⟩
   . cases bad3 with
     | true =>
       have HB := ah (HBAD.out (.inl (by trivial))); clear hp; go_wp2_with fail; refine bodyPost_ret (aX Tryz.results43 rfl (aQ HD8.out.z _ _ _ _ _ _ _ _ _) rfl) rfl ⟨.inr ⟨HB.out, rfl⟩, aP HD8.out.b ai _ _ _ _ _ _ _ _ _⟩
     | false =>
       have l1 : (bs.toList != s.toList) = !(decide (bs = s)) := by rw [<- dx]; rfl
       have l2 := dx bs s; by_cases hbe : bs = s
       . rw [decide_eq_true hbe] at l1 l2
         have HOK := ah hp; have HBE := ah hbe; clear hp hbe; go_wp2_with fail; refine bodyPost_ret (aX Tryz.results43 rfl (aQ HD8.out.z _ _ _ _ _ _ _ _ _) rfl) rfl ⟨.inl ⟨op, osl, by rw [HPE.out]; exact HOK.out, by rw [HBS.out]; exact HBE.out.symm, by rw [HOP.out, HOS.out]; rfl, ?_⟩, aP HD8.out.b ai _ _ _ _ _ _ _ _ _⟩; rw [HOP.out, HOS.out]; exact ⟨Sl.nil _ _ _ _, Sl.nil _ _ _ _, Nat.le_refl _, Nat.zero_le _, Nat.le_refl _, Nat.zero_le _⟩
       . rw [decide_eq_false hbe] at l1 l2
         have HB := ah (HBAD.out (.inr (fun h => hbe h.2))); clear hp hbe; go_wp2_with fail; refine bodyPost_ret (aX Tryz.results43 rfl (aQ HD8.out.z _ _ _ _ _ _ _ _ _) rfl) rfl ⟨.inr ⟨HB.out, rfl⟩, aP HD8.out.b ai _ _ _ _ _ _ _ _ _⟩
   . have HB := ah (HBAD.out (.inr (fun h => hp h.1)))
     have hzn : (z != 0) = true := by rw [bne_iff_ne]; exact hz
     clear hp hz; cases bad3 with
     | true =>
       go_wp2_with fail; refine bodyPost_ret (aX Tryz.results43 rfl (aQ HD8.out.z _ _ _ _ _ _ _ _ _) rfl) rfl ⟨.inr ⟨HB.out, rfl⟩, aP HD8.out.b ai _ _ _ _ _ _ _ _ _⟩
     | false =>
       go_wp2_with fail; refine bodyPost_ret (aX Tryz.results43 rfl (aQ HD8.out.z _ _ _ _ _ _ _ _ _) rfl) rfl ⟨.inr ⟨HB.out, rfl⟩, aP HD8.out.b ai _ _ _ _ _ _ _ _ _⟩
def xM (n : Nat) (p : List Itm) (w : World) (e : Ending) (w' : World) : Prop := ∃ r : Bool, e = .returned (.bool r) /\ (r = false -> n <= 40 /\ ∀ i ∈ p, i.2.size <= 500) /\ w = w'
theorem Az (A : OA) (n c B : Nat) (p : List Itm) (w : World) (h0 : Sl w B 3 A n (flat itC p)) (hn : n <= maxLen) (hs : ∀ i ∈ p, i.2.size <= maxLen) :
  Calls Tryz.prog 23 #[.slice A n c] w (xM n p w) := by
 unfold maxLen at hn; have HL0 := ah (h0.len cO (by omega)); have H0 := ah h0; clear h0; have HS := ah hs; clear hs
 go_enter Tryz.func23, Tryz.ntmps23
 by_cases hbig : (40 : Int) < (n : Int)
 . go_wp2
   go_ret
   exact ⟨true, rfl, (fun e => by cases e), rfl⟩
 go_wp2
 go_loopw [3] (fun i wr => ∃ k : Nat, k <= n /\ i = .int .i64 k /\ wr = w /\ Hid (∀ f ∈ p.take k, f.2.size <= 500)) (fun i _ => n - (intOf i).toNat)
 case atStart => exact ⟨0, Nat.zero_le _, rfl, rfl, fun y hy => by simp at hy⟩
 case round =>
  obtain ⟨k, hk, rfl, rfl, hN⟩ := hrel; by_cases hlt : k < n
  . obtain ⟨b, off, f, rfl, hb, hf, y0, y1, y2⟩ := H0.out.it hlt
    have hkz : (k : Int) < (n : Int) := by omega
    have hf2 : f.2.size <= 9223372036854775807 := by have := HS.out f (List.mem_of_getElem? hf); unfold maxLen at this; exact this
    have HF := ah hf; clear hf; by_cases c2 : (500 : Int) < (f.2.size : Int)
    . go_wp2
      go_ret
      exact ⟨true, rfl, (fun e => by cases e), rfl⟩
    have HN : Hid (∀ f ∈ p.take (k + 1), f.2.size <= 500) := fun y hy => by
     rw [bA HF.out] at hy; rcases List.mem_append.1 hy with hy | hy
     . exact hN.out y hy
     . rw [List.mem_singleton.1 hy]; omega
    go_wp2
    go_roundw
    case rel => exact ⟨k + 1, hlt, by go_num, trivial, HN.out⟩
    case measure => simp [intOf]; omega
  . have hkz : ¬ (k : Int) < (n : Int) := by omega
    have HN : Hid (∀ f ∈ p, f.2.size <= 500) := by
     have := hN.out
     rwa [List.take_of_length_le (by rw [HL0.out]; omega)] at this
    go_wp2
    go_ret
    exact ⟨false, rfl, (fun _ => ⟨by omega, HN.out⟩), rfl⟩
theorem ui {p : List Itm} {k : Nat} {x : Itm} (h : PlOk (p.take k)) (hx : p[k]? = some x) (he : ∃ o, OkO o /\ x.2 = ofL (aB o)) (hd : x.1 = ofB (toL x.2)) (hp : ∀ y, 0 < k -> p[k - 1]? = some y -> ltD y.1 x.1) : PlOk (p.take (k + 1)) := by
 rw [bA hx]; refine ⟨fun i hi => ?_, fun i hi => ?_, ?_⟩
 . rcases List.mem_append.1 hi with hi | hi
   . exact h.enc i hi
   . rw [List.mem_singleton.1 hi]; exact he
 . rcases List.mem_append.1 hi with hi | hi
   . exact h.dg i hi
   . rw [List.mem_singleton.1 hi]; exact hd
 . rw [List.pairwise_append]
   refine ⟨h.asc, List.pairwise_singleton _ _, fun a ha b hb => ?_⟩; rw [List.mem_singleton.1 hb]; have hk0 : 0 < k := by
    rcases Nat.eq_zero_or_pos k with h0 | h0
    . subst h0; simp at ha
    . exact h0
   have hkl := (List.getElem?_eq_some_iff.1 hx).1; have hy : p[k - 1]? = some (p[k - 1]'(by omega)) := List.getElem?_eq_getElem _; have hlast := hp _ hk0 hy; obtain ⟨j, hj, e⟩ := List.getElem_of_mem ha; rw [List.length_take] at hj; rw [List.getElem_take] at e; rcases Nat.lt_or_ge j (k - 1) with h1 | h1
   . have hasc := h.asc
     rw [List.pairwise_iff_getElem] at hasc; have h2 := hasc j (k - 1) (by rw [List.length_take]; omega) (by rw [List.length_take]; omega) h1; rw [List.getElem_take, List.getElem_take, e] at h2; exact fo h2 hlast
   . have : j = k - 1 := by omega
     subst this; rw [<- e]; exact hlast
def xO (p : List Itm) (w : World) (e : Ending) (w' : World) : Prop := ∃ err : Int, e = .returned (.int .i64 err) /\ (err = 0 -> PlOk p) /\ Below w.heap.size w w'
theorem AU (A : OA) (n c B : Nat) (p : List Itm) (w : World) (h0 : Sl w B 3 A n (flat itC p)) (hB : B <= w.heap.size) (hn : n <= 1000) (hs : ∀ i ∈ p, i.2.size <= 1000) :
  Calls Tryz.prog 24 #[.slice A n c] w (xO p w) := by
 have HL0 := ah (h0.len cO (by omega)); have H0 := ah h0; clear h0; have HS := ah hs; clear hs
 go_enter Tryz.func24, Tryz.ntmps24
 go_wp2_with fail
 go_loopw [3] (fun i wr => ∃ k : Nat, k <= n /\ i = .int .i64 (k : Int) /\ Hid (PlOk (p.take k)) /\ Hid (Below w.heap.size w wr)) (fun i _ => n - (intOf i).toNat)
 case atStart => exact ⟨0, Nat.zero_le _, rfl, by rw [List.take_zero]; exact PlOk.nil, Below.refl _ _⟩
 case round =>
  obtain ⟨k, hk, rfl, hN, hBel⟩ := hrel; by_cases hlt : k < n
  . have hlz : (k : Int) < (n : Int) := by omega
    obtain ⟨b, off, x, rfl, hb, hx, y0, y1, y2⟩ := (H0.out.below hBel.out hB).it hlt; have HX := ah hx; have hxs := HS.out x (List.mem_of_getElem? hx); clear hx; obtain ⟨⟨x1, x2⟩, xs⟩ := x; simp only at y0 y1 y2 hxs; have HD := ah (sG xs wr (by omega)); unfold qO at HD; have zb : b < wr.heap.size := by have := hBel.out.size; omega
    go_wp2_with fail; refine HD.out.mono ?_; rintro e w2 ⟨hq, hb2⟩; have HB2 : Hid (Below w.heap.size w w2) := hBel.out.trans (hb2.mono hBel.out.size); obtain ⟨q0, q1, q2⟩ : w2.cell? ⟨b, off + k * 3, none⟩ = some (.int .u64 x1) /\ w2.cell? ⟨b, off + k * 3 + 1, none⟩ = some (.int .u64 x2) /\ w2.cell? ⟨b, off + k * 3 + 2, none⟩ = some (.string xs) := ⟨(hb2.cell (p := ⟨b, off + k * 3, none⟩) zb).trans y0, (hb2.cell (p := ⟨b, off + k * 3 + 1, none⟩) zb).trans y1, (hb2.cell (p := ⟨b, off + k * 3 + 2, none⟩) zb).trans y2⟩
    have zb2 : b < w2.heap.size := by have := hb2.size; omega
    clear hb2 HD y0 y1 y2 hBel; rcases hq with ⟨o, sl, ho, he, rfl, _⟩ | ⟨_, rfl⟩
    case inr =>
     clear q0 q1 q2; go_wp2_with fail; go_ret
     exact ⟨13, rfl, (fun h => by cases h), HB2.out.alloc HB2.out.size _⟩
    case inl =>
     have HE : Hid (∃ o, OkO o /\ xs = ofL (aB o)) := ⟨o, ho, he⟩
     simp only [obV, obC]; clear ho he; obtain ⟨W3, hW3⟩ : ∃ W3, w2.alloc (.cells #[.int .i64 o.kind, .string o.data, .slice sl.eA sl.en sl.ec, .int .u64 o.tree.1, .int .u64 o.tree.2, .slice sl.pA sl.pn sl.pc, .string o.auth, .int .i64 o.time, .string o.msg] 75) = W3 := ⟨_, rfl⟩
     have hb3 : Below w2.heap.size w2 W3 := by rw [<- hW3]; exact (Below.refl _ w2).alloc ai _
     have HB3 : Hid (Below w.heap.size w W3) := HB2.out.trans (hb3.mono HB2.out.size); obtain ⟨k0, k1, k2⟩ : W3.cell? ⟨b, off + k * 3, none⟩ = some (.int .u64 x1) /\ W3.cell? ⟨b, off + k * 3 + 1, none⟩ = some (.int .u64 x2) /\ W3.cell? ⟨b, off + k * 3 + 2, none⟩ = some (.string xs) := ⟨(hb3.cell (p := ⟨b, off + k * 3, none⟩) zb2).trans q0, (hb3.cell (p := ⟨b, off + k * 3 + 1, none⟩) zb2).trans q1, (hb3.cell (p := ⟨b, off + k * 3 + 2, none⟩) zb2).trans q2⟩
     have zb3 : b < W3.heap.size := by have := hb3.size; omega
     have HOF := ah (fun W => Ee xs W (by unfold maxLen; omega)); unfold jc at HOF; obtain ⟨⟨g1, g2⟩, hg⟩ : ∃ g, ofB (toL xs) = g := ⟨_, rfl⟩
     rw [hg] at HOF; have HG := ah hg; simp only [az] at HOF; clear hg hb3; by_cases hgx : g1 = x1 /\ g2 = x2
     case neg =>
      have hgf : (g1 == x1 && g2 == x2) = false := by
       rw [Bool.eq_false_iff]; intro h; rw [Bool.and_eq_true, beq_iff_eq, beq_iff_eq] at h; exact hgx h
      clear hgx; go_wp2_with fail; clear hW3 q0 q1 q2
      go_region_held3 (fun w' => w'.cell? ⟨b, off + k * 3, none⟩ = some (.int .u64 x1) /\ w'.cell? ⟨b, off + k * 3 + 1, none⟩ = some (.int .u64 x2) /\ w'.cell? ⟨b, off + k * 3 + 2, none⟩ = some (.string xs))
       (first | exact ⟨k0, k1, k2⟩ | exact ⟨m0.out, m1.out, m2.out⟩)
       (first
         | (go_at_call 44; refine (HOF.out _).mono ?_; rintro e w7 ⟨rfl, hb2⟩
            have m0 := ah ((hb2.cell (p := ⟨b, off + k * 3, none⟩) (by show b < _; simp; omega)).trans k0); have m1 := ah ((hb2.cell (p := ⟨b, off + k * 3 + 1, none⟩) (by show b < _; simp; omega)).trans k1); have m2 := ah ((hb2.cell (p := ⟨b, off + k * 3 + 2, none⟩) (by show b < _; simp; omega)).trans k2); have hR : Hid (Below W3.heap.size W3 w7) := (Below.refl _ W3).drew.trans hb2; clear hb2))
      have HB8 : Hid (Below w.heap.size w w7) := HB3.out.trans (hR.out.mono HB3.out.size); have p0 := m0.out; have p1 := m1.out; have p2 := m2.out; have zb7 : b < w7.heap.size := by have := hR.out.size; omega
      clear HB3 HB2 hR k0 k1 k2; clear p0 p1 p2 m0 m1 m2; go_wp2_with fail; go_ret
      exact ⟨15, rfl, (fun h => by cases h), HB8.out⟩
     case pos =>
      obtain ⟨rfl, rfl⟩ := hgx; have hgf : (g1 == g1 && g2 == g2) = true := by simp
      go_wp2_with fail; clear hW3 q0 q1 q2
      go_region_held3 (fun w' => w'.cell? ⟨b, off + k * 3, none⟩ = some (.int .u64 g1) /\ w'.cell? ⟨b, off + k * 3 + 1, none⟩ = some (.int .u64 g2) /\ w'.cell? ⟨b, off + k * 3 + 2, none⟩ = some (.string xs))
       (first | exact ⟨k0, k1, k2⟩ | exact ⟨m0.out, m1.out, m2.out⟩)
       (first
         | (go_at_call 44; refine (HOF.out _).mono ?_; rintro e w7 ⟨rfl, hb2⟩
            have m0 := ah ((hb2.cell (p := ⟨b, off + k * 3, none⟩) (by show b < _; simp; omega)).trans k0); have m1 := ah ((hb2.cell (p := ⟨b, off + k * 3 + 1, none⟩) (by show b < _; simp; omega)).trans k1); have m2 := ah ((hb2.cell (p := ⟨b, off + k * 3 + 2, none⟩) (by show b < _; simp; omega)).trans k2); have hR : Hid (Below W3.heap.size W3 w7) := (Below.refl _ W3).drew.trans hb2; clear hb2))
      have HB8 : Hid (Below w.heap.size w w7) := HB3.out.trans (hR.out.mono HB3.out.size); have p0 := m0.out; have p1 := m1.out; have p2 := m2.out; have zb7 : b < w7.heap.size := by have := hR.out.size; omega
      clear HB3 HB2 hR k0 k1 k2; clear m0 m1 m2; have HG2 : Hid ((g1, g2) = ofB (toL xs)) := HG.out.symm; by_cases hk0 : k = 0
      . subst hk0
        have HP1 : Hid (PlOk (p.take (0 + 1))) := ui hN.out HX.out HE.out HG2.out (fun y h => absurd h (Nat.lt_irrefl 0)); clear p0 p1 p2; go_wp2_with fail
        go_region
        go_wp2_with fail; go_roundw
        case rel => exact ⟨0 + 1, hlt, by go_num, HP1.out, HB8.out.drew⟩
        case measure => simp [intOf]; omega
      . obtain ⟨j, rfl⟩ : ∃ j, k = j + 1 := ⟨k - 1, by omega⟩
        obtain ⟨b3, off3, y, hA3, hb3, hy, z0, z1, z2⟩ := (H0.out.below HB8.out hB).it (k := j) (by omega); injection hA3 with hA3; injection hA3 with hA3 hA4; subst hA3; subst hA4; have HY := ah hy; clear hy; obtain ⟨⟨y1', y2'⟩, ys⟩ := y; simp only at z0 z1 z2; have hj1 : IntKind.i64.wrap (j : Int) = (j : Int) := by rw [IntKind.wrap_i64]; omega
        have hjn : j < n := by omega
        have hj2 : (j : Int) + 1 < (n : Int) := by omega
        have hj3 : (0 : Int) <= (j : Int) + 1 := by omega
        have hj4 : ((j : Int) + 1).toNat = j + 1 := by omega
        have HCM := ah (fun W => uq (y1', y2') (g1, g2) W); unfold CmE at HCM; simp only [az] at HCM; obtain ⟨cz, hcz⟩ : ∃ cz, bL (y1', y2') (g1, g2) = cz := ⟨_, rfl⟩
        rw [hcz] at HCM; have HCZ := ah hcz; clear hcz; by_cases hcz : cz < 0
        case neg =>
         have hc2 : (0 : Int) <= cz := by omega
         clear hcz; go_wp2_with fail
         go_region_held3 (fun w' => w'.cell? ⟨b, off + j * 3, none⟩ = some (.int .u64 y1') /\ w'.cell? ⟨b, off + j * 3 + 1, none⟩ = some (.int .u64 y2') /\ w'.cell? ⟨b, off + (j + 1) * 3, none⟩ = some (.int .u64 g1) /\ w'.cell? ⟨b, off + (j + 1) * 3 + 1, none⟩ = some (.int .u64 g2))
          (first | exact ⟨z0, z1, p0, p1⟩ | exact ⟨n0.out, n1.out, n2.out, n3.out⟩)
          (first
            | (go_at_call 45; refine (HCM.out _).mono ?_; rintro e w8 ⟨rfl, hb8⟩
               have n0 := ah ((hb8.cell (p := ⟨b, off + j * 3, none⟩) (by show b < _; simp; omega)).trans z0); have n1 := ah ((hb8.cell (p := ⟨b, off + j * 3 + 1, none⟩) (by show b < _; simp; omega)).trans z1); have n2 := ah ((hb8.cell (p := ⟨b, off + (j + 1) * 3, none⟩) (by show b < _; simp; omega)).trans p0); have n3 := ah ((hb8.cell (p := ⟨b, off + (j + 1) * 3 + 1, none⟩) (by show b < _; simp; omega)).trans p1); have hR8 : Hid (Below w7.heap.size w7 w8) := (Below.refl _ w7).drew.trans hb8; clear hb8))
         have HB9 : Hid (Below w.heap.size w w8) := HB8.out.trans (hR8.out.mono HB8.out.size); clear n0 n1 n2 n3 z0 z1 z2 p0 p1 p2 hR8; go_wp2_with fail; go_ret
         exact ⟨10, rfl, (fun h => by cases h), HB9.out⟩
        case pos =>
         have hc2 : ¬ (0 : Int) <= cz := by omega
         have HLT : Hid (ltD (y1', y2') (g1, g2)) := (iR _ _).1 (by rw [HCZ.out]; exact hcz); have HP1 : Hid (PlOk (p.take (j + 1 + 1))) := ui hN.out HX.out HE.out HG2.out (fun y _ hy => by
          rw [Nat.add_sub_cancel, HY.out] at hy; injection hy with hy; rw [<- hy]; exact HLT.out)
         clear hcz; go_wp2_with fail
         go_region_held3 (fun w' => w'.cell? ⟨b, off + j * 3, none⟩ = some (.int .u64 y1') /\ w'.cell? ⟨b, off + j * 3 + 1, none⟩ = some (.int .u64 y2') /\ w'.cell? ⟨b, off + (j + 1) * 3, none⟩ = some (.int .u64 g1) /\ w'.cell? ⟨b, off + (j + 1) * 3 + 1, none⟩ = some (.int .u64 g2))
          (first | exact ⟨z0, z1, p0, p1⟩ | exact ⟨n0.out, n1.out, n2.out, n3.out⟩)
          (first
            | (go_at_call 45; refine (HCM.out _).mono ?_; rintro e w8 ⟨rfl, hb8⟩
               have n0 := ah ((hb8.cell (p := ⟨b, off + j * 3, none⟩) (by show b < _; simp; omega)).trans z0); have n1 := ah ((hb8.cell (p := ⟨b, off + j * 3 + 1, none⟩) (by show b < _; simp; omega)).trans z1); have n2 := ah ((hb8.cell (p := ⟨b, off + (j + 1) * 3, none⟩) (by show b < _; simp; omega)).trans p0); have n3 := ah ((hb8.cell (p := ⟨b, off + (j + 1) * 3 + 1, none⟩) (by show b < _; simp; omega)).trans p1); have hR8 : Hid (Below w7.heap.size w7 w8) := (Below.refl _ w7).drew.trans hb8; clear hb8))
         have HB9 : Hid (Below w.heap.size w w8) := HB8.out.trans (hR8.out.mono HB8.out.size); clear n0 n1 n2 n3 z0 z1 z2 p0 p1 p2 hR8; go_wp2_with fail; go_roundw
         case rel => exact ⟨j + 1 + 1, hlt, by go_num, HP1.out, HB9.out⟩
         case measure => simp [intOf]; omega
  . have hlz : ¬ (k : Int) < (n : Int) := by omega
    have HN : Hid (PlOk p) := by
     have := hN.out
     rwa [List.take_of_length_le (by rw [HL0.out]; omega)] at this
    have HB2 := ah hBel.out; clear hN hBel; go_wp2_with fail; go_ret
    exact ⟨0, rfl, fun _ => HN.out, HB2.out⟩
section
attribute [local go_sem] Oper.semAt_some
abbrev Vd := Fl × Int
def zF : Fl := (⟨#[]⟩, ⟨#[]⟩)
section
variable {B0 hz : Nat} {A B C : World}
end
theorem RoundIn.wide {n m : Nat} {P : Program} {l f : Nat} {tmps : Array Value} {assign body : Code} {w : World} {R : Ending -> World -> Prop} (h : RoundIn Fence.wide n P l f tmps assign body w R) : RoundIn Fence.wide m P l f tmps assign body w R :=
 ⟨h.1, fun c cs _ => h.2 c cs (room_wide _)⟩
end
theorem Sl.fc {w : World} {B n k : Nat} {A : OA} {l : List FCh} (h : Sl w B 5 A n (flat fcC l)) (hk : k < n) :
  ∃ b off x, A = some ⟨b, off, none⟩ /\ b < B /\ l[k]? = some x /\ w.cell? ⟨b, off + k * 5, none⟩ = some (.string x.path) /\ w.cell? ⟨b, off + k * 5 + 1, none⟩ = some (.bool x.ho) /\ w.cell? ⟨b, off + k * 5 + 2, none⟩ = some (.bool x.hn) /\ w.cell? ⟨b, off + k * 5 + 3, none⟩ = some (.string x.old) /\ w.cell? ⟨b, off + k * 5 + 4, none⟩ = some (.string x.new) := by
 obtain ⟨b, off, x, e, hb, hx, hc⟩ := h.at_ Ec (by omega) hk; exact ⟨b, off, x, e, hb, hx, hc 0 _ rfl, hc 1 _ rfl, hc 2 _ rfl, hc 3 _ rfl, hc 4 _ rfl⟩
@[go_sem] theorem GM : Tryz.prog.eqGuardType Tryz.prog.depth 44 = false := by kernel_rfl
theorem EM : Tryz.prog.stoodInHeld 44 = false := by kernel_rfl
theorem F7 (a b c d : Int) (w : World) : (Op.equalIn 9999 42 (.agg #[.int .u64 a, .int .u64 b]) (.agg #[.int .u64 c, .int .u64 d])).run Tryz.prog w = .ok (a == c && b == d) w := xK 9997 a b c d w
@[go_sem high] theorem GV (a b c d : Int) (s t : ByteArray) (w : World) : (Op.equalIn 10000 44 (.agg #[.int .u64 a, .int .u64 b, .string s]) (.agg #[.int .u64 c, .int .u64 d, .string t])).run Tryz.prog w = .ok ((a == c && b == d) && s.toList == t.toList) w := by
 have hS : Tryz.prog.underlying 44 = some (.struct (Tryz.prog.fieldsOf 44)) := by kernel_rfl
 have a9 := Tryz.isAgg9; have u9 := Tryz.underlying9; have aD := Tryz.isAgg42; have uD := Tryz.underlying42; have zD := Tryz.sizeOf42; have hd := F7 a b c d w; rw [show (10000 : Nat) = 9999 + 1 from rfl, run_equalIn_agg w 9999 44 _ _ hS EM]; simp only [Program.fieldsOf, Tryz.underlying44]
 go_simp
 by_cases h1 : a = c <;> by_cases h2 : b = d <;> by_cases h3 : s.toList = t.toList <;> simp [h1, h2, h3]
instance : DecidableEq FCh := fun a b => decidable_of_iff (a.path = b.path /\ a.ho = b.ho /\ a.hn = b.hn /\ a.old = b.old /\ a.new = b.new) ⟨fun h => by cases a; cases b; simp_all, fun h => by subst h; simp⟩
theorem BH (A0 A1 : OA) (n0 c0 n1 c1 B : Nat) (rs qs : List Itm) (w : World) (h0 : Sl w B 3 A0 n0 (flat itC rs)) (h1 : Sl w B 3 A1 n1 (flat itC qs)) (m0 : n0 <= maxLen) :
  Calls Tryz.prog 14 #[.slice A0 n0 c0, .slice A1 n1 c1] w fun e w' => e = .returned (.bool (decide (rs = qs))) /\ ∃ k, w' = w.drewN k := by
 unfold maxLen at m0; have HL0 := ah (h0.len cO (by omega)); have HL1 := ah (h1.len cO (by omega)); have H0 := ah h0; have H1 := ah h1; clear h0 h1; have hM : Hid (decide (rs = qs) = true ↔ rs = qs) := decide_eq_true_iff; generalize decide (rs = qs) = mb at *; by_cases hn : n0 = n1
 . subst hn
   go_enter Tryz.func14, Tryz.ntmps14
   go_wp2
   go_loopw [5] (fun i wr => ∃ k nq : Nat, k <= n0 /\ i = .int .i64 k /\ wr = w.drewN nq /\ Hid (rs.take k = qs.take k)) (fun i _ => n0 - (intOf i).toNat)
   case atStart => exact ⟨0, 0, Nat.zero_le _, rfl, rfl, rfl⟩
   case round =>
    obtain ⟨k, nq, hk, rfl, rfl, heq⟩ := hrel; by_cases hlt : k < n0
    . obtain ⟨b0, o0, r, rfl, _, hr, x0, x1, x2⟩ := H0.out.it hlt
      obtain ⟨b1, o1, q, rfl, _, hq, y0, y1, y2⟩ := H1.out.it hlt; have HR := ah hr; have HQ := ah hq; clear hr hq; have hlz : (k : Int) < (n0 : Int) := by omega
      by_cases e : r = q
      . have t1 : ((r.1.1 == q.1.1 && r.1.2 == q.1.2) && r.2.toList == q.2.toList) = true := by rw [e]; simp
        have HE := ah e; clear e; have hnx : Hid (rs.take (k + 1) = qs.take (k + 1)) := by
         show _ = _; rw [bA HR.out, bA HQ.out, heq.out, HE.out]
        go_wp2
        go_quiet (fail)
        go_wp2
        go_roundw
        case rel => exact ⟨k + 1, _, by omega, by go_num, rfl, hnx⟩
        case measure => simp [intOf]; omega
      . have t1 : ((r.1.1 == q.1.1 && r.1.2 == q.1.2) && r.2.toList == q.2.toList) = false := by
          rw [Bool.eq_false_iff]; intro hh; simp only [Bool.and_eq_true, beq_iff_eq, ByteArray.toList_eq] at hh; apply e
          exact Prod.ext (Prod.ext hh.1.1 hh.1.2) (iM hh.2)
        have HE := ah e; clear e
        go_wp2
        go_quiet (fail)
        go_wp2
        go_ret
        refine ⟨aZ ?_, ⟨_, World.drewN_drewN _ _ _⟩⟩
        symm
        rw [Bool.eq_false_iff]; intro hh; have := hM.out.1 hh; subst this; exact HE.out (Option.some.inj (HR.out.symm.trans HQ.out))
    . have hall : Hid (mb = true) := by
        have := heq.out; rw [List.take_of_length_le (by rw [HL0.out]; omega), List.take_of_length_le (by rw [HL1.out]; omega)] at this; exact hM.out.2 this
      have hlz : ¬ (k : Int) < (n0 : Int) := by omega
      go_wp2
      go_ret
      exact ⟨aZ hall.out.symm, _, rfl⟩
 . have hne : ((n0 : Int) != (n1 : Int)) = true := by rw [bne_iff_ne]; omega
   go_enter Tryz.func14, Tryz.ntmps14
   go_wp2
   go_ret
   refine ⟨aZ ?_, 0, rfl⟩
   symm
   rw [Bool.eq_false_iff]; intro hh; have := hM.out.1 hh; subst this; exact hn (HL0.out.symm.trans HL1.out)
def SmE (hn n : Nat) (p : List Itm) (w : World) (e : Ending) (w' : World) : Prop := ∃ r : Bool, e = .returned (.bool r) /\ (r = true -> hn <= 8 /\ n <= 40 /\ PlOk p) /\ Below w.heap.size w w'
theorem Bh (A : OA) (n c : Nat) (p : List Itm) (b : Nat) (hA : OA) (hn hc : Nat) (w : World) (h0 : Sl w w.heap.size 3 A n (flat itC p)) (hk : Bk w b 24 #[.slice hA hn hc]) (hnn : n <= maxLen) (hs : ∀ i ∈ p, i.2.size <= maxLen) :
  Calls Tryz.prog 7 #[.slice A n c, .slice (some ⟨b, 0, none⟩) 1 1] w (SmE hn n p w) := by
 have H0 := ah h0; have HG := ah (Az A n c w.heap.size p w h0 hnn hs); unfold xM at HG; have c0 := hk.cell 0; simp at c0; clear h0 hs hk
 go_enter Tryz.func7, Tryz.ntmps7
 go_wp2_with fail
 go_loopw [9] (fun i wr => ∃ k : Nat, i = .int .i64 k /\ k <= 1 /\ (k = 0 ∨ hn <= 8) /\ Hid (wr = w)) (fun i _ => 1 - (intOf i).toNat)
 case atStart => exact ⟨0, rfl, by omega, .inl rfl, rfl⟩
 case round =>
  obtain ⟨k, rfl, hk1, hkn, hw⟩ := hrel; obtain rfl := hw.out; by_cases hk0 : k = 0
  . subst hk0
    clear hkn; by_cases h8 : 8 < hn
    . have h8i : (8 : Int) < (hn : Int) := by omega
      go_wp2_with fail; go_ret
      exact ⟨false, rfl, (fun h => by cases h), Below.refl _ _⟩
    . have h8i : ¬ (8 : Int) < (hn : Int) := by omega
      go_wp2_with fail; go_roundw
      case rel => exact ⟨1, rfl, by omega, .inr (by omega), trivial⟩
      case measure => simp [intOf]
  . have hke : k = 1 := by omega
    subst hke; have h8 : hn <= 8 := by omega
    clear hkn hk0 c0; obtain ⟨wo, hwo⟩ : ∃ wo, wo = wr := ⟨_, rfl⟩
    subst hwo; go_wp2_with fail; refine HG.out.mono ?_; rintro e w1 ⟨r, rfl, hr, rfl⟩; have HR := ah hr; clear hr HG; cases r with
    | true =>
      go_wp2_with fail; go_ret
      exact ⟨false, rfl, (fun h => by cases h), Below.refl _ _⟩
    | false =>
      obtain ⟨hn40, hsz⟩ := HR.out rfl; have HC := ah (AU A n c wo.heap.size p wo H0.out ai (by omega) (fun i hi => Nat.le_trans (hsz i hi) (by omega))); unfold xO at HC; clear hsz; go_wp2_with fail; refine HC.out.mono ?_; rintro e w2 ⟨err, rfl, he, hb⟩; have HE := ah he; have HB := ah hb; clear he hb HC; go_wp2_with fail; go_ret
      refine ⟨(err == 0), rfl, fun h => ⟨h8, hn40, HE.out (by simpa using h)⟩, HB.out⟩
section
variable {p : List Itm} {rs rl rm op done : List Dig} {met : Dig -> Bool} {d x : Dig} {o : Ob}
end
/-! ### bounds -/
noncomputable def reU (p : List Itm) (rs : List Dig) : List Dig := rs ++ p.flatMap fun i => dX (fw i.2)
theorem ED {p : List Itm} {rs : List Dig} (hp : PlOk p) {d x : Dig} {o : Ob} (g : ay p d = some o) (hx : x ∈ dX o) : x ∈ reU p rs := by
 obtain ⟨ho, hm⟩ := (dR hp).1 g; refine List.mem_append_right _ (List.mem_flatMap.2 ⟨_, hm, ?_⟩); simp only; rw [fq ho]; exact hx
theorem Bf {o : Ob} (h : OkO o) : (dX o).length <= 209 := by
 unfold dX; rw [List.length_append, List.length_map]; cases h.f with
 | blob k e c _ => rw [e]; rcases k with k | k <;> simp [k]
 | tree k _ _ e => have := e.few; simp [k]; omega
 | commit k _ e c => have := c.pars.few; rw [e]; simp [k]; omega
theorem Cz {o : Ob} (h : OkO o) : ∀ d ∈ dX o, WfD d := by
 intro d hd; unfold dX at hd; rcases List.mem_append.1 hd with hd | hd
 . obtain ⟨e, he, rfl⟩ := List.mem_map.1 hd
   exact (jy h e he).dg
 . split at hd
   . rcases List.mem_cons.1 hd with rfl | hd
     . exact pQ h
     . exact (gQ h).2 d hd
   . cases hd
theorem sQ {α β : Type} {f : α -> List β} {n : Nat} : ∀ {l : List α}, (∀ x ∈ l, (f x).length <= n) -> (l.flatMap f).length <= l.length * n
 | [], _ => by simp
 | a :: l, h => by
   have h1 := h a (by simp); have h2 := sQ (l := l) (f := f) (n := n) fun x hx => h x (by simp [hx]); rw [List.flatMap_cons, List.length_append, List.length_cons, Nat.add_mul]; omega
theorem Ey {p : List Itm} {rs : List Dig} (hp : PlOk p) (hn : p.length <= 40) (hr : rs.length <= 8) : (reU p rs).length <= 9000 := by
 unfold reU; rw [List.length_append]; have h := sQ (n := 209) (l := p) (f := fun i => dX (fw i.2)) fun i hi => by
  obtain ⟨o, ho, e⟩ := hp.1 i hi; rw [e, fq ho]; exact Bf ho
 have := Nat.mul_le_mul_right 209 hn; omega
def cu (U : List Dig) (met : Dig -> Bool) : Nat := U.countP fun d => !met d
theorem qd {f g : Dig -> Bool} : ∀ {U : List Dig}, (∀ x, g x = true -> f x = true) -> U.countP g <= U.countP f
 | [], _ => by simp
 | a :: U, h => by
   have ih := qd (U := U) h; rw [List.countP_cons, List.countP_cons]; by_cases ha : g a = true
   . rw [if_pos ha, if_pos (h a ha)]; omega
   . rw [if_neg ha]; omega
theorem wY {f g : Dig -> Bool} {d : Dig} (hf : f d = true) (hg : g d = false) : ∀ {U : List Dig}, (∀ x, g x = true -> f x = true) -> d ∈ U -> U.countP g + 1 <= U.countP f
 | [], _, hd => by cases hd
 | a :: U, h, hd => by
   rw [List.countP_cons, List.countP_cons]; rcases List.mem_cons.1 hd with rfl | hd
   . have := qd (U := U) h
     rw [if_pos hf, if_neg (by rw [hg]; simp)]; omega
   . have ih := wY hf hg h hd
     by_cases ha : g a = true
     . rw [if_pos ha, if_pos (h a ha)]; omega
     . rw [if_neg ha]; omega
theorem tq {U : List Dig} {met : Dig -> Bool} {d : Dig} (hd : d ∈ U) (hm : met d = false) : cu U (aK met d) + 1 <= cu U met := by
 unfold cu; refine wY (d := d) (by simp [hm]) (by simp [aK]) (fun x hx => ?_) hd; simp [aK] at hx ⊢; exact hx.2
theorem lH (U : List Dig) (met : Dig -> Bool) : cu U met <= U.length := List.countP_le_length
def mR (p : List Itm) (d : Dig) (w : World) (e : Ending) (w' : World) : Prop :=
 ((∃ o s, ay p d = some o /\ OkO o /\ e = .returned (.tuple #[obV o s, .int .i64 0]) /\ ObM w' w'.heap.size o s) ∨ (ay p d = none /\ e = .returned (.tuple #[obV zOb zOs, .int .i64 8]))) /\ Below w.heap.size w w'
theorem oK (A : OA) (n c B : Nat) (p : List Itm) (d : Dig) (w : World) (h0 : Sl w B 3 A n (flat itC p)) (hB : B <= w.heap.size) (hn : n <= 1000000) (hp : PlOk p) :
  Calls Tryz.prog 31 #[.slice A n c, az d] w (mR p d w) := by
 have HP := ah hp; have HL := ah (h0.len cO (by omega)); clear hp; obtain ⟨d1, d2⟩ := d; obtain ⟨W, hW⟩ : ∃ W, (w.alloc (.cells #[.int .u64 d1, .int .u64 d2] 42)).alloc (.cells #[.int .i64 0, .string ⟨#[]⟩, .slice none 0 0, .int .u64 0, .int .u64 0, .slice none 0 0, .string ⟨#[]⟩, .int .i64 0, .string ⟨#[]⟩] 75) = W := ⟨_, rfl⟩
 have HB0 : Hid (Below w.heap.size w W) := by rw [<- hW]; exact ((Below.refl _ w).alloc ai _).alloc (by simp) _
 have HK : Hid (Bk W w.heap.size 42 #[.int .u64 d1, .int .u64 d2]) := by rw [<- hW]; exact (Bk.new w _ _).alloc _
 have HZ : Hid (Bk W (w.heap.size + 1) 75 zrC) := by
  rw [<- hW]; have := Bk.new (w.alloc (.cells #[.int .u64 d1, .int .u64 d2] 42)) 75 #[.int .i64 0, .string ⟨#[]⟩, .slice none 0 0, .int .u64 0, .int .u64 0, .slice none 0 0, .string ⟨#[]⟩, .int .i64 0, .string ⟨#[]⟩]; rw [World.size_alloc] at this; exact this
 have HC := ah (BC A n c B p (d1, d2) W (h0.below HB0.out hB) (Nat.le_trans hB HB0.out.size) hn HP.out.asc); have H0 := ah h0; clear h0; have zW : w.heap.size + 2 = W.heap.size := by rw [<- hW]; simp
 have HW := ah hW; clear hW; unfold FiE at HC; simp only [az] at HC ⊢; obtain ⟨x0, x1, _, _⟩ := HK.out.two; cases hf : bD p (d1, d2) with
 | none =>
   have HN : Hid (ay p (d1, d2) = none) := getP_none.2 hf; have hfi : fiD p (d1, d2) = -1 := by unfold fiD; rw [hf]; rfl
   rw [hfi] at HC; clear hf hfi
   go_enter Tryz.func31, Tryz.ntmps31
   go_wp2_with fail; rw [HW.out]; refine HC.out.mono ?_; rintro e w2 ⟨rfl, hb⟩; have HZ2 := ah (HZ.out.below hb (by omega)); have HB2 : Hid (Below w.heap.size w w2) := HB0.out.trans (hb.mono HB0.out.size); obtain ⟨z0, z1, z2, z3, z4, z5, z6, z7, z8⟩ := HZ2.out.nine; obtain ⟨g0, g1, g2, g3, g4, g5, g6, g7, g8⟩ := fr9 HZ2.out; clear hb HC; go_wp2_with fail; refine bodyPost_ret (aX Tryz.results31 rfl (aQ HZ2.out _ _ _ _ _ _ _ _ _) rfl) rfl ⟨.inr ⟨HN.out, rfl⟩, aP HB2.out (by omega) _ _ _ _ _ _ _ _ _⟩
 | some b =>
   have HM : Hid (((d1, d2), b) ∈ p) := (fZ HP.out.asc).1 hf; obtain ⟨o, ho, hbe⟩ := HP.out.enc _ HM.out; simp only at hbe; have HG : Hid (ay p (d1, d2) = some o) := (dR HP.out).2 ⟨ho, by rw [<- hbe]; exact HM.out⟩; have HO := ah ho; have HI : Hid (∃ i, p[atD p (d1, d2)]? = some i /\ i.2 = b /\ atD p (d1, d2) < n) := by
    unfold bD at hf; cases hi : p[atD p (d1, d2)]? with
    | none => rw [hi] at hf; cases hf
    | some i =>
      rw [hi] at hf; simp only at hf; split at hf
      . exact ⟨i, rfl, by cases hf; rfl, by rw [<- HL.out]; exact (List.getElem?_eq_some_iff.1 hi).1⟩
      . cases hf
   obtain ⟨i, hi, hib, hin⟩ := HI.out; obtain ⟨m, hm⟩ : ∃ m, atD p (d1, d2) = m := ⟨_, rfl⟩
   have hfi : fiD p (d1, d2) = (m : Int) := by unfold fiD; rw [hf, hm]; rfl
   rw [hfi] at HC; rw [hm] at hi hin; clear hf ho hm hfi
   go_enter Tryz.func31, Tryz.ntmps31
   go_wp2_with fail; rw [HW.out]; refine HC.out.mono ?_; rintro e w2 ⟨rfl, hb⟩; have HB2 : Hid (Below w.heap.size w w2) := HB0.out.trans (hb.mono HB0.out.size); have HZ2 := ah (HZ.out.below hb (by omega)); obtain ⟨bb, off, i', rfl, hbB, hx, y0, y1, y2⟩ := (H0.out.below HB2.out hB).it hin; rw [hi] at hx; obtain rfl := Option.some.inj hx; rw [hib, hbe] at y2; have HD := ah (sG (ofL (aB o)) w2 (by rw [bN]; have := HO.out.len; omega)); unfold qO at HD; obtain ⟨sb, hsb⟩ : ∃ sb, ofL (aB o) = sb := ⟨_, rfl⟩
   rw [hsb] at HD y2; have HSB := ah hsb; clear hsb; have zw2 := hb.size; clear hb HC hi hib hbe hx; have hmn : (m : Int) < (n : Int) := by omega
   go_wp2_with fail; refine HD.out.mono ?_; rintro e w3 ⟨hq, hb3⟩; rcases hq with ⟨o', s, ho', he', rfl, hm3⟩ | ⟨hno, _⟩
   case inr => exact absurd HSB.out.symm (hno o HO.out)
   have hoo : o' = o := by rw [<- fq ho', <- he', <- HSB.out, fq HO.out]
   subst hoo; clear ho' he'; have HZ3 := ah (HZ2.out.below hb3 (by omega)); have HB3 : Hid (Below w.heap.size w w3) := HB2.out.trans (hb3.mono HB2.out.size); simp only [obV, obC]; obtain ⟨W3, hW3⟩ : ∃ W3, w3.alloc (.cells #[.int .i64 o'.kind, .string o'.data, .slice s.eA s.en s.ec, .int .u64 o'.tree.1, .int .u64 o'.tree.2, .slice s.pA s.pn s.pc, .string o'.auth, .int .i64 o'.time, .string o'.msg] 75) = W3 := ⟨_, rfl⟩
   have HBa : Hid (Below w3.heap.size w3 W3) := by rw [<- hW3]; exact (Below.refl _ w3).alloc ai _
   have HKa : Hid (Bk W3 w3.heap.size 75 #[.int .i64 o'.kind, .string o'.data, .slice s.eA s.en s.ec, .int .u64 o'.tree.1, .int .u64 o'.tree.2, .slice s.pA s.pn s.pc, .string o'.auth, .int .i64 o'.time, .string o'.msg]) := by rw [<- hW3]; exact Bk.new w3 _ _
   have HM3 : Hid (ObM W3 W3.heap.size o' s) := (hm3.below HBa.out ai).more HBa.out.size; have HZ3 := ah (HZ3.out.below HBa.out (by have := hb3.size; omega)); have HB3 : Hid (Below w.heap.size w W3) := HB3.out.trans (HBa.out.mono HB3.out.size); have HW3 := ah hW3; obtain ⟨q0, q1, q2, q3, q4, q5, q6, q7, q8⟩ := HKa.out.nine; rw [<- hW3] at q0 q1 q2 q3 q4 q5 q6 q7 q8; clear hW3; obtain ⟨z0, z1, z2, z3, z4, z5, z6, z7, z8⟩ := HZ3.out.nine; obtain ⟨g0, g1, g2, g3, g4, g5, g6, g7, g8⟩ := fr9 HZ3.out; rw [<- HW3.out] at z0 z1 z2 z3 z4 z5 z6 z7 z8 g0 g1 g2 g3 g4 g5 g6 g7 g8; clear hb3 hm3 HD; go_wp2_with fail; rw [HW3.out]; refine bodyPost_ret (aX Tryz.results31 rfl (aQ HZ3.out _ _ _ _ _ _ _ _ _) rfl) rfl ⟨.inl ⟨o', s, HG.out, HO.out, rfl, ?_⟩, aP HB3.out (by omega) _ _ _ _ _ _ _ _ _⟩; have := HM3.out.zero (t := 75) HO.out HZ3.out (fun k hk => iT _ W3 (.int .i64 o'.kind) (.string o'.data) (.slice s.eA s.en s.ec) (.int .u64 o'.tree.1) (.int .u64 o'.tree.2) (.slice s.pA s.pn s.pc) (.string o'.auth) (.int .i64 o'.time) (.string o'.msg) k hk)
   simpa using this
theorem wN {w : World} {base base' size n c : Nat} {e : TypeId} {A : OA} {xs : List Value} (h : Apd w base e size A n c xs) (hb : base' <= base) : Apd w base' e size A n c xs := by
 rcases h with h | h
 . exact .inl (fF h hb)
 . exact .inr h
end Go.Proofs.YtlcecobipgmafaaGreatDoor
