/-
  Lemmas of the card.
-/
import Derived.Lib.BufferMore
import Derived.Test.YtlcecobipgmafaaGreatDoorNCNd14
import Derived.Test.YtlcecobipgmafaaGreatDoorNCNd10
import Derived.Test.YtlcecobipgmafaaGreatDoorNCNd9
import Derived.Test.YtlcecobipgmafaaGreatDoorNCNd12
import Derived.Test.YtlcecobipgmafaaGreatDoorNCNd8
set_option maxRecDepth 100000
set_option maxHeartbeats 32000000
namespace Go.Proofs.YtlcecobipgmafaaGreatDoor
open Go.RowKit
def iw (A0 : OA) (c0 : Nat) (l : List Dig) (d : Dig) (w : World) (e : Ending) (w' : World) : Prop :=
 ∃ l' A c, AscD l' /\ (∀ x, x ∈ l' ↔ x = d ∨ x ∈ l) /\ l'.length <= l.length + 1 /\ e = .returned (.slice A l'.length c) /\ ((A = A0 /\ c = c0 /\ l' = l) ∨ Apd w' w.heap.size 42 2 A l'.length c (flat dgC l')) /\ l'.length <= c /\ c <= maxLen /\ Below w.heap.size w w'
theorem iB (A : OA) (n c B : Nat) (l : List Dig) (d : Dig) (w : World) (h0 : Sl w B 2 A n (flat dgC l)) (hB : B <= w.heap.size) (hnc : n <= c) (hcm : c <= maxLen) (hn : n <= 900000) (ha : AscD l) :
  Calls Tryz.prog 32 #[.slice A n c, az d] w (iw A c l d w) := by
 have HL := ah (h0.len aS (by omega)); have HAS := ah ha; have HCM := ah hcm; have HNC := ah hnc; obtain ⟨d1, d2⟩ := d; obtain ⟨W, hW⟩ : ∃ W, w.alloc (.cells #[.int .u64 d1, .int .u64 d2] 42) = W := ⟨_, rfl⟩
 have HB0 : Hid (Below w.heap.size w W) := by rw [<- hW]; exact (Below.refl _ w).alloc ai _
 have HK : Hid (Bk W w.heap.size 42 #[.int .u64 d1, .int .u64 d2]) := by rw [<- hW]; exact Bk.new w _ _
 have zk : w.heap.size < W.heap.size := HK.out.lt; have HS2 : Hid (Sl W B 2 A n (flat dgC l)) := h0.below HB0.out hB; have hB2 : B <= W.heap.size := by omega
 clear h0 ha hcm; unfold az; simp only; obtain ⟨i0, hi, hz0, hz1, hz2⟩ := info_parts ik; have Hi := ah hi; have Hz0 := ah hz0; have Hz1 := ah hz1; have Hz2 := ah hz2; clear hi hz0 hz1 hz2
 go_enter Tryz.func32, Tryz.ntmps32
 go_wp2_with fail; clear hW
 go_loopw [5] (fun i wr => ∃ k : Nat, k <= n /\ i = .int .i64 (k : Int) /\ Hid (∀ y ∈ l.take k, ltD y (d1, d2)) /\ Hid (Below W.heap.size W wr)) (fun i _ => n - (intOf i).toNat)
 case atStart => exact ⟨0, Nat.zero_le _, rfl, (fun y hy => by rw [List.take_zero] at hy; cases hy), Below.refl _ _⟩
 case round =>
  obtain ⟨k, hk, rfl, hLT, hBel⟩ := hrel; obtain ⟨k0, k1, _, _⟩ := (HK.out.below hBel.out zk).two; obtain ⟨Ak, hAr, hAk⟩ := rF (P := Tryz.prog) 24 i0 Tryz.underlying24 Hi.out Hz1.out A n c k hk hnc; have HAk := ah hAk; have HAr := ah hAr; have HTK := ah (kG (P := Tryz.prog) 24 i0 Tryz.underlying24 Hi.out A n c k (by omega)); clear hAk hAr; have HLL := ah hLT.out; clear hLT; by_cases hlt : k < n
  . have hlz : (k : Int) < (n : Int) := by omega
    obtain ⟨b, off, x, rfl, hbB, hx, y0, y1⟩ := (HS2.out.below hBel.out hB2).dg hlt; have HX := ah hx; have HBE := ah hBel.out; have zr : W.heap.size <= wr.heap.size := hBel.out.size; clear hx hBel; obtain ⟨x1, x2⟩ := x; simp only at y0 y1; have HCM2 := ah (fun W => uq (x1, x2) (d1, d2) W); unfold CmE at HCM2; simp only [az] at HCM2; obtain ⟨cz, hcz⟩ : ∃ cz, bL (x1, x2) (d1, d2) = cz := ⟨_, rfl⟩
    rw [hcz] at HCM2; have HCZ := ah hcz; clear hcz; by_cases hlD : ltD (x1, x2) (d1, d2)
    . have hc : cz < 0 := by rw [<- HCZ.out, iR]; exact hlD
      have HLN : Hid (∀ y ∈ l.take (k + 1), ltD y (d1, d2)) := fun y hy => by
       rw [bA HX.out] at hy; rcases List.mem_append.1 hy with hy | hy
       . exact HLL.out y hy
       . rw [List.mem_singleton.1 hy]; exact hlD
      clear hlD; go_wp2_with fail
      go_region_held3 (fun w' => w'.cell? ⟨b, off + k * 2, none⟩ = some (.int .u64 x1) /\ w'.cell? ⟨b, off + k * 2 + 1, none⟩ = some (.int .u64 x2) /\ w'.cell? ⟨w.heap.size, 0, none⟩ = some (.int .u64 d1) /\ w'.cell? ⟨w.heap.size, 1, none⟩ = some (.int .u64 d2))
       (first | exact ⟨y0, y1, k0, k1⟩ | exact ⟨n0.out, n1.out, n2.out, n3.out⟩)
       (first
         | (go_at_call 45; refine (HCM2.out _).mono ?_; rintro e w8 ⟨rfl, hb8⟩
            have n0 := ah ((hb8.cell (p := ⟨b, off + k * 2, none⟩) (by show b < _; simp; omega)).trans y0); have n1 := ah ((hb8.cell (p := ⟨b, off + k * 2 + 1, none⟩) (by show b < _; simp; omega)).trans y1); have n2 := ah ((hb8.cell (p := ⟨w.heap.size, 0, none⟩) (by show w.heap.size < _; simp; omega)).trans k0); have n3 := ah ((hb8.cell (p := ⟨w.heap.size, 1, none⟩) (by show w.heap.size < _; simp; omega)).trans k1); have hR8 : Hid (Below wr.heap.size wr w8) := (Below.refl _ wr).drew.trans hb8; clear hb8))
      have HB9 : Hid (Below W.heap.size W w8) := HBE.out.trans (hR8.out.mono zr); clear n0 n1 n2 n3 y0 y1 k0 k1 hR8; go_wp2_with fail; go_roundw
      case rel => exact ⟨k + 1, by omega, by go_num, HLN.out, HB9.out⟩
      case measure => simp [intOf]; omega
    . have hc : ¬ cz < 0 := by rw [<- HCZ.out, iR]; exact hlD
      have HNL := ah hlD; clear hlD; go_wp2_with fail
      go_region_held3 (fun w' => w'.cell? ⟨b, off + k * 2, none⟩ = some (.int .u64 x1) /\ w'.cell? ⟨b, off + k * 2 + 1, none⟩ = some (.int .u64 x2) /\ w'.cell? ⟨w.heap.size, 0, none⟩ = some (.int .u64 d1) /\ w'.cell? ⟨w.heap.size, 1, none⟩ = some (.int .u64 d2))
       (first | exact ⟨y0, y1, k0, k1⟩ | exact ⟨n0.out, n1.out, n2.out, n3.out⟩)
       (first
         | (go_at_call 45; refine (HCM2.out _).mono ?_; rintro e w8 ⟨rfl, hb8⟩
            have n0 := ah ((hb8.cell (p := ⟨b, off + k * 2, none⟩) (by show b < _; simp; omega)).trans y0); have n1 := ah ((hb8.cell (p := ⟨b, off + k * 2 + 1, none⟩) (by show b < _; simp; omega)).trans y1); have n2 := ah ((hb8.cell (p := ⟨w.heap.size, 0, none⟩) (by show w.heap.size < _; simp; omega)).trans k0); have n3 := ah ((hb8.cell (p := ⟨w.heap.size, 1, none⟩) (by show w.heap.size < _; simp; omega)).trans k1); have hR8 : Hid (Below wr.heap.size wr w8) := (Below.refl _ wr).drew.trans hb8; clear hb8))
      have HB9 : Hid (Below W.heap.size W w8) := HBE.out.trans (hR8.out.mono zr); clear n0 n1 n2 n3 y0 y1 k0 k1 hR8 HBE zr; obtain ⟨wx, hwx⟩ : ∃ u, u = w8 := ⟨_, rfl⟩
      subst hwx; obtain ⟨k0, k1, _, _⟩ := (HK.out.below HB9.out zk).two; obtain ⟨_, _, x', hAe, _, hx', y0, y1⟩ := (HS2.out.below HB9.out hB2).dg hlt; cases hAe
      rw [HX.out] at hx'; obtain rfl := Option.some.inj hx'; simp only at y0 y1; clear hx'; have hde := iW (x1, x2) (d1, d2); simp only at hde; by_cases he : ((x1, x2) : Dig) = (d1, d2)
      . rw [decide_eq_true he] at hde
        have HM : Hid (((d1, d2) : Dig) ∈ l) := by show _ ∈ _; rw [<- he]; exact List.mem_of_getElem? HX.out
        have hn63 : n <= 9223372036854775807 := by omega
        clear he; go_wp2_with fail
        go_quiet (fail)
        go_wp2_with fail; go_ret
        exact ⟨l, some ⟨b, off, none⟩, c, HAS.out, fun x => ⟨.inr, fun h => by rcases h with rfl | h; exact HM.out; exact h⟩, by omega, by rw [HL.out]; rfl, .inl ⟨rfl, rfl, rfl⟩, by rw [HL.out]; exact HNC.out, HCM.out, HB0.out.trans ((aM HB9.out _).mono (by omega))⟩
      . rw [decide_eq_false he] at hde
        have HGT : Hid (∀ x, l[k]? = some x -> ltD (d1, d2) x) := fun x hx => by
         rw [HX.out] at hx; obtain rfl := Option.some.inj hx; exact Classical.byContradiction fun hh => he (lD HNL.out hh)
        clear he; go_wp2_with fail
        go_quiet (fail)
        obtain ⟨w2b, hw2b⟩ : ∃ u, u = wx.drewN nq := ⟨_, rfl⟩
        have HB10 : Hid (Below W.heap.size W w2b) := by rw [hw2b]; exact aM HB9.out _
        rw [<- hw2b]; clear hw2b HB9 y0 y1 k0 k1 hde hc; have zq : w.heap.size < w2b.heap.size := Nat.lt_of_lt_of_le zk HB10.out.size; have hB9 : B <= w2b.heap.size := by have := HB10.out.size; omega
        have HS9 : Hid (Sl w2b B 2 (some ⟨b, off, none⟩) n (flat dgC l)) := HS2.out.below HB10.out hB2; obtain ⟨k0, k1, _, _⟩ := (HK.out.below HB10.out zk).two; have tk := HTK.out; have HSP : Hid (∀ x ∈ [(0, EmS), (4, ApG w2b.heap.size k (l.take k)), (6, SlG (d1, d2))], ∀ v W W', x.2 v W -> Below W.heap.size W W' -> x.2 v W') := fun x hx v W W' h hb => by
         simp only [List.mem_cons, List.not_mem_nil, or_false] at hx; rcases hx with rfl | rfl | rfl
         . exact h
         . exact ApG.keep h hb
         . exact SlG.keep h hb
        have HLEN : Hid ((l.take k ++ [(d1, d2)] ++ l.drop k).length = k + 1 + (n - k)) := by
         show _ = _; rw [List.length_append, List.length_append, List.length_take, List.length_drop, HL.out, Nat.min_eq_left hk]; rfl
        go_wp2_with fail; refine eu 7 (35 :: 36 :: 37 :: 38 :: 39 :: 40 :: 41 :: []) (by kernel_rfl) (by kernel_rfl) (by kernel_rfl) (fun W => Below w2b.heap.size w2b W) (fun W W' => Below W.heap.size W W')
         (fM [(0, EmS), (4, ApG w2b.heap.size k (l.take k)), (6, SlG (d1, d2))] ((undef) :: (.slice (some ⟨b, off, none⟩) n c) :: (.int .i64 (k : Int)) :: (.slice (some ⟨b, off, none⟩) k c) :: (undef) :: (.agg #[.int .u64 d1, .int .u64 d2]) :: (undef) :: [])) (fun W W' h1 h2 => h1.trans (h2.mono h1.size)) (fun i v W W' h hb => iF HSP.out i v W W' h hb) (Below.refl _ _).drew ?stepA ?tailA
        case stepA =>
         intro i o vs W hi ho hv hR hphi; obtain ⟨v0, v1, v2, v3, v4, v5, v6, rfl⟩ := ls7 hv; simp only [List.zip, List.zipWith, aG, Act.put, List.setIfInBounds_toArray, List.set]; have hWz := hR.size; have g0 := (hR.cell (p := ⟨w.heap.size, 0, none⟩) (by show w.heap.size < _; omega)).trans k0; have g1 := (hR.cell (p := ⟨w.heap.size, 1, none⟩) (by show w.heap.size < _; omega)).trans k1
         match i, hi, ho with
         | 0, _, rfl =>
           exact .inl ⟨rfl, ax (v := .slice (some ⟨W.heap.size, 0, none⟩) 0 0) (w' := W.alloc (.cells #[] 42)) (by go_simp) ⟨(Below.refl _ W).alloc ai _, W.heap.size, rfl⟩⟩
         | 1, _, rfl =>
           exact .inl ⟨rfl, ax (v := .slice (some ⟨b, off, none⟩) n c) (w' := W) (by go_simp) ⟨Below.refl _ _, fun _ => aA⟩⟩
         | 2, _, rfl =>
           exact .inl ⟨rfl, ax (v := .int .i64 (k : Int)) (w' := W) (by go_simp) ⟨Below.refl _ _, fun _ => aA⟩⟩
         | 3, _, rfl =>
           have e1 : v1 = _ := hphi ⟨1, .data⟩ (by simp) rfl v1 rfl _ rfl; have e2 : v2 = _ := hphi ⟨2, .data⟩ (by simp) rfl v2 rfl _ rfl; subst e1 e2; exact .inl ⟨rfl, ax (v := .slice (some ⟨b, off, none⟩) k c) (w' := W) (by go_simp) ⟨Below.refl _ _, fun _ => aA⟩⟩
         | 4, _, rfl =>
           obtain ⟨b0, rfl⟩ : (EmS) v0 W := hphi ⟨0, .data⟩ (by simp) rfl v0 rfl; have e3 : v3 = _ := hphi ⟨3, .data⟩ (by simp) rfl v3 rfl _ rfl; subst e3; obtain ⟨A5, c5, w5, hr5, ha5, hb5, hn5, hm5⟩ := ku (P := Tryz.prog) (base := w2b.heap.size) 24 24 i0 _ 16 Tryz.underlying24 Hi.out Hz0.out Hz1.out Hz2.out rfl (by decide) (w := W) (c' := c) ((HS9.out.dg_take hk).below hR hB9) (fI _) (by unfold maxLen; omega) (by omega) hWz (some ⟨b0, 0, none⟩); exact .inl ⟨rfl, kH (.tmp 35) (.tmp 38) 24 rfl rfl rfl hr5 ⟨hb5, A5, c5, rfl, ha5⟩⟩
         | 5, _, rfl =>
           exact .inl ⟨rfl, ax (v := .agg #[.int .u64 d1, .int .u64 d2]) (w' := W) (by go_simp) ⟨Below.refl _ _, fun _ => aA⟩⟩
         | 6, _, rfl =>
           have e5 : v5 = _ := hphi ⟨5, .data⟩ (by simp) rfl v5 rfl _ rfl; subst e5; exact .inl ⟨rfl, ax (v := .slice (some ⟨W.heap.size, 0, none⟩) 1 1) (w' := W.alloc (.cells #[.int .u64 d1, .int .u64 d2] 42)) (by go_simp) ⟨(Below.refl _ W).alloc ai _, W.heap.size, rfl, Bk.new W _ _⟩⟩
         | i + 7, hi, _ => exact absurd hi (by omega)
        case tailA =>
         intro vs W hv hR hphi; obtain ⟨v0, v1, v2, v3, v4, v5, v6, rfl⟩ := ls7 hv; simp only [List.zip, List.zipWith, aG, Act.put, List.setIfInBounds_toArray, List.set, List.drop]; have e0 : (EmS) v0 W := hphi 0 v0 rfl; have e1 : v1 = _ := hphi 1 v1 rfl _ rfl; have e2 : v2 = _ := hphi 2 v2 rfl _ rfl; have e3 : v3 = _ := hphi 3 v3 rfl _ rfl; have e4 : (ApG w2b.heap.size k (l.take k)) v4 W := hphi 4 v4 rfl; have e5 : v5 = _ := hphi 5 v5 rfl _ rfl; have e6 : (SlG (d1, d2)) v6 W := hphi 6 v6 rfl; subst e1 e2 e3 e5; clear hphi hv; obtain ⟨b0, rfl⟩ := e0; obtain ⟨A5, c5, rfl, ha5⟩ := e4; obtain ⟨b6, rfl, hb6⟩ := e6; have HR := ah hR; clear hR k0 k1 tk; refine dJ (base := w2b.heap.size) (size := 2) _ rfl (.tmp 39) (.tmp 41) 24 rfl 42 i0 _ 16 Tryz.underlying24 Hi.out Hz0.out Hz1.out Hz2.out rfl (by decide) A5 k c5 _ rfl ha5 W.heap.size _ 1 1 _ rfl (xn hb6) (fI _) (by unfold maxLen; omega) (by omega) HR.out.size ?_; intro A6 c6 w6 ha6 hb6' hn6 hm6 _; have HB6 : Hid (Below w2b.heap.size w2b w6) := HR.out.trans hb6'; rw [<- bT] at ha6; have HA6 := ah ha6; have hAr := HAr.out; clear ha5 hb6 ha6 hb6' hn6 hm6
         go_wp2_with (at_builtin; refine aI ?_)
         refine aC ?_; refine dJ (base := w2b.heap.size) (size := 2) _ rfl (.tmp 43) (.tmp 46) 24 rfl 42 i0 _ 16 Tryz.underlying24 Hi.out Hz0.out Hz1.out Hz2.out rfl (by decide) A6 (k + 1) c6 _ rfl HA6.out B Ak (n - k) (c - k) (flat dgC (l.drop k)) rfl ?hdA (fI _) ?l1A ?l2A HB6.out.size ?_
         case hdA => rw [nR aS]; exact HAk.out w6 B _ (HS9.out.below HB6.out hB9)
         case l1A => unfold maxLen; omega
         case l2A => omega
         intro A7 c7 w7 ha7 hb7 hn7 hm7 _; rw [<- bT] at ha7; have HA7 := ah ha7; have HB7 : Hid (Below w.heap.size w w7) := HB0.out.trans ((HB10.out.trans ((HB6.out.trans hb7).mono (by have := HB10.out.size; omega))).mono (by omega)); clear ha7 hb7 hAr; go_wp2_with fail; go_ret
         exact ⟨_, A7, c7, Go.Proofs.YtlcecobipgmafaaGreatDoor.u7 HAS.out HLL.out HGT.out, fun x => uX l _ _ x, by rw [HLEN.out, HL.out]; omega, by rw [HLEN.out]; rfl, .inr (by rw [HLEN.out]; exact wN HA7.out (by omega)), by rw [HLEN.out]; exact hn7, hm7, HB7.out⟩
  . have hlz : ¬ (k : Int) < (n : Int) := by omega
    have hkm' : k = n := by omega
    have HGT : Hid (∀ x, l[k]? = some x -> ltD (d1, d2) x) := fun x hx => by
     have := (List.getElem?_eq_some_iff.1 hx).1; rw [HL.out] at this; omega
    clear hkm'; have HBE := ah hBel.out; clear hBel k0 k1; go_wp2_with fail
    go_quiet (fail)
    obtain ⟨w9, hw9⟩ : ∃ u, u = wr.drewN nq := ⟨_, rfl⟩
    have HB9 : Hid (Below W.heap.size W w9) := by rw [hw9]; exact aM HBE.out _
    rw [<- hw9]; clear hw9 HBE; go_wp2_with fail
    go_quiet (fail)
    obtain ⟨w2b, hw2b⟩ : ∃ u, u = w9.drewN nq := ⟨_, rfl⟩
    have HB10 : Hid (Below W.heap.size W w2b) := by rw [hw2b]; exact aM HB9.out _
    rw [<- hw2b]; clear hw2b HB9; have zq : w.heap.size < w2b.heap.size := Nat.lt_of_lt_of_le zk HB10.out.size; have hB9 : B <= w2b.heap.size := by have := HB10.out.size; omega
    have HS9 : Hid (Sl w2b B 2 A n (flat dgC l)) := HS2.out.below HB10.out hB2; obtain ⟨k0, k1, _, _⟩ := (HK.out.below HB10.out zk).two; have tk := HTK.out; have HSP : Hid (∀ x ∈ [(0, EmS), (4, ApG w2b.heap.size k (l.take k)), (6, SlG (d1, d2))], ∀ v W W', x.2 v W -> Below W.heap.size W W' -> x.2 v W') := fun x hx v W W' h hb => by
     simp only [List.mem_cons, List.not_mem_nil, or_false] at hx; rcases hx with rfl | rfl | rfl
     . exact h
     . exact ApG.keep h hb
     . exact SlG.keep h hb
    have HLEN : Hid ((l.take k ++ [(d1, d2)] ++ l.drop k).length = k + 1 + (n - k)) := by
     show _ = _; rw [List.length_append, List.length_append, List.length_take, List.length_drop, HL.out, Nat.min_eq_left hk]; rfl
    go_wp2_with fail; refine eu 7 (35 :: 36 :: 37 :: 38 :: 39 :: 40 :: 41 :: []) (by kernel_rfl) (by kernel_rfl) (by kernel_rfl) (fun W => Below w2b.heap.size w2b W) (fun W W' => Below W.heap.size W W')
     (fM [(0, EmS), (4, ApG w2b.heap.size k (l.take k)), (6, SlG (d1, d2))] ((undef) :: (.slice A n c) :: (.int .i64 (k : Int)) :: (.slice A k c) :: (undef) :: (.agg #[.int .u64 d1, .int .u64 d2]) :: (undef) :: [])) (fun W W' h1 h2 => h1.trans (h2.mono h1.size)) (fun i v W W' h hb => iF HSP.out i v W W' h hb) (Below.refl _ _).drew ?stepB ?tailB
    case stepB =>
     intro i o vs W hi ho hv hR hphi; obtain ⟨v0, v1, v2, v3, v4, v5, v6, rfl⟩ := ls7 hv; simp only [List.zip, List.zipWith, aG, Act.put, List.setIfInBounds_toArray, List.set]; have hWz := hR.size; have g0 := (hR.cell (p := ⟨w.heap.size, 0, none⟩) (by show w.heap.size < _; omega)).trans k0; have g1 := (hR.cell (p := ⟨w.heap.size, 1, none⟩) (by show w.heap.size < _; omega)).trans k1
     match i, hi, ho with
     | 0, _, rfl =>
       exact .inl ⟨rfl, ax (v := .slice (some ⟨W.heap.size, 0, none⟩) 0 0) (w' := W.alloc (.cells #[] 42)) (by go_simp) ⟨(Below.refl _ W).alloc ai _, W.heap.size, rfl⟩⟩
     | 1, _, rfl =>
       exact .inl ⟨rfl, ax (v := .slice A n c) (w' := W) (by go_simp) ⟨Below.refl _ _, fun _ => aA⟩⟩
     | 2, _, rfl =>
       exact .inl ⟨rfl, ax (v := .int .i64 (k : Int)) (w' := W) (by go_simp) ⟨Below.refl _ _, fun _ => aA⟩⟩
     | 3, _, rfl =>
       have e1 : v1 = _ := hphi ⟨1, .data⟩ (by simp) rfl v1 rfl _ rfl; have e2 : v2 = _ := hphi ⟨2, .data⟩ (by simp) rfl v2 rfl _ rfl; subst e1 e2; exact .inl ⟨rfl, ax (v := .slice A k c) (w' := W) (by go_simp) ⟨Below.refl _ _, fun _ => aA⟩⟩
     | 4, _, rfl =>
       obtain ⟨b0, rfl⟩ : (EmS) v0 W := hphi ⟨0, .data⟩ (by simp) rfl v0 rfl; have e3 : v3 = _ := hphi ⟨3, .data⟩ (by simp) rfl v3 rfl _ rfl; subst e3; obtain ⟨A5, c5, w5, hr5, ha5, hb5, hn5, hm5⟩ := ku (P := Tryz.prog) (base := w2b.heap.size) 24 24 i0 _ 16 Tryz.underlying24 Hi.out Hz0.out Hz1.out Hz2.out rfl (by decide) (w := W) (c' := c) ((HS9.out.dg_take hk).below hR hB9) (fI _) (by unfold maxLen; omega) (by omega) hWz (some ⟨b0, 0, none⟩); exact .inl ⟨rfl, kH (.tmp 35) (.tmp 38) 24 rfl rfl rfl hr5 ⟨hb5, A5, c5, rfl, ha5⟩⟩
     | 5, _, rfl =>
       exact .inl ⟨rfl, ax (v := .agg #[.int .u64 d1, .int .u64 d2]) (w' := W) (by go_simp) ⟨Below.refl _ _, fun _ => aA⟩⟩
     | 6, _, rfl =>
       have e5 : v5 = _ := hphi ⟨5, .data⟩ (by simp) rfl v5 rfl _ rfl; subst e5; exact .inl ⟨rfl, ax (v := .slice (some ⟨W.heap.size, 0, none⟩) 1 1) (w' := W.alloc (.cells #[.int .u64 d1, .int .u64 d2] 42)) (by go_simp) ⟨(Below.refl _ W).alloc ai _, W.heap.size, rfl, Bk.new W _ _⟩⟩
     | i + 7, hi, _ => exact absurd hi (by omega)
    case tailB =>
     intro vs W hv hR hphi; obtain ⟨v0, v1, v2, v3, v4, v5, v6, rfl⟩ := ls7 hv; simp only [List.zip, List.zipWith, aG, Act.put, List.setIfInBounds_toArray, List.set, List.drop]; have e0 : (EmS) v0 W := hphi 0 v0 rfl; have e1 : v1 = _ := hphi 1 v1 rfl _ rfl; have e2 : v2 = _ := hphi 2 v2 rfl _ rfl; have e3 : v3 = _ := hphi 3 v3 rfl _ rfl; have e4 : (ApG w2b.heap.size k (l.take k)) v4 W := hphi 4 v4 rfl; have e5 : v5 = _ := hphi 5 v5 rfl _ rfl; have e6 : (SlG (d1, d2)) v6 W := hphi 6 v6 rfl; subst e1 e2 e3 e5; clear hphi hv; obtain ⟨b0, rfl⟩ := e0; obtain ⟨A5, c5, rfl, ha5⟩ := e4; obtain ⟨b6, rfl, hb6⟩ := e6; have HR := ah hR; clear hR k0 k1 tk; refine dJ (base := w2b.heap.size) (size := 2) _ rfl (.tmp 39) (.tmp 41) 24 rfl 42 i0 _ 16 Tryz.underlying24 Hi.out Hz0.out Hz1.out Hz2.out rfl (by decide) A5 k c5 _ rfl ha5 W.heap.size _ 1 1 _ rfl (xn hb6) (fI _) (by unfold maxLen; omega) (by omega) HR.out.size ?_; intro A6 c6 w6 ha6 hb6' hn6 hm6 _; have HB6 : Hid (Below w2b.heap.size w2b w6) := HR.out.trans hb6'; rw [<- bT] at ha6; have HA6 := ah ha6; have hAr := HAr.out; clear ha5 hb6 ha6 hb6' hn6 hm6
     go_wp2_with (at_builtin; refine aI ?_)
     refine aC ?_; refine dJ (base := w2b.heap.size) (size := 2) _ rfl (.tmp 43) (.tmp 46) 24 rfl 42 i0 _ 16 Tryz.underlying24 Hi.out Hz0.out Hz1.out Hz2.out rfl (by decide) A6 (k + 1) c6 _ rfl HA6.out B Ak (n - k) (c - k) (flat dgC (l.drop k)) rfl ?hdB (fI _) ?l1B ?l2B HB6.out.size ?_
     case hdB => rw [nR aS]; exact HAk.out w6 B _ (HS9.out.below HB6.out hB9)
     case l1B => unfold maxLen; omega
     case l2B => omega
     intro A7 c7 w7 ha7 hb7 hn7 hm7 _; rw [<- bT] at ha7; have HA7 := ah ha7; have HB7 : Hid (Below w.heap.size w w7) := HB0.out.trans ((HB10.out.trans ((HB6.out.trans hb7).mono (by have := HB10.out.size; omega))).mono (by omega)); clear ha7 hb7 hAr; go_wp2_with fail; go_ret
     exact ⟨_, A7, c7, Go.Proofs.YtlcecobipgmafaaGreatDoor.u7 HAS.out HLL.out HGT.out, fun x => uX l _ _ x, by rw [HLEN.out, HL.out]; omega, by rw [HLEN.out]; rfl, .inr (by rw [HLEN.out]; exact wN HA7.out (by omega)), by rw [HLEN.out]; exact hn7, hm7, HB7.out⟩
section
open Go.Maps
def bkO (A : OA) : Option Nat := A.map Addr.block
theorem jR (A : OA) (n c : Nat) : (Value.slice A n c).ownBlock = bkO A := by cases A <;> rfl
section
variable {P : Program} {w : World} {base size n c : Nat} {e : TypeId} {A : OA} {xs : List Value}
theorem zt (t ty : TypeId) (i : TypeInfo) (z : Value) (bytes : Nat) (ht : P.underlying t = some (.slice e)) (hi : P.info? e = some i) (hz : i.zero = some z)
  (hsize : i.size = size) (hby : i.bytes = bytes) (hzs : z.cells.size = size) (hsz : 0 < size) (hown : w.ownsRow base e size (.slice A n c) n xs)
  {B : Nat} {A' : OA} {m c' : Nat} {ys : List Value} (hsl : Sl w B size A' m ys) (h1 : ∀ u ∈ ys, u.oneCell' = true) (hm : 0 < m)
  (h63 : n + m <= maxLen) (hbytes : (n + m) * bytes <= 140737488355328) (hbase : base <= w.heap.size) :
  ∃ A2 c2 w', (Builtin.append_ #[t, t] ty #[.slice A n c, .slice A' m c']).run P w = .ok (.slice A2 (n + m) c2) w' /\ w'.ownsRow base e size (.slice A2 (n + m) c2) (n + m) (xs ++ ys) /\ w.grownBy w' (bkO A) /\ n + m <= c2 /\ c2 <= maxLen /\ ∀ g, bkO A2 = some g -> bkO A = some g ∨ w.heap.size <= g := by
 obtain ⟨A2, c2, w', hr, ho', hg, hc1, hc2⟩ := kz (P := P) t ty i z bytes ht hi hz hsize hby hzs hsz hown (c := c') hsl h1 h63 hbytes hbase; obtain ⟨A3, c3, w3, row, hr2, _, _, _, h5⟩ := rA (P := P) t ty i z bytes ht hi hz hsize hby hzs hsz (Que.of_own hown) (c' := c') hsl h1 hm h63 hbytes hbase; rw [hr] at hr2; injection hr2 with e1 e2; injection e1 with e3 e4 e5; subst e3; subst e5; subst e2; rw [jR] at hg; refine ⟨A2, c2, w', hr, ho', hg, hc1, hc2, fun g hgb => ?_⟩; rcases ho'.2 with ⟨hv, _⟩ | ⟨g', cap, cur, hv, _⟩
 . simp at hv
   rw [hv.1] at hgb; cases hgb
 . simp at hv
   obtain ⟨rfl, _⟩ := hv; have : g' = g := Option.some.inj hgb; subst this; rcases h5 g' 0 rfl with ⟨_, off, h⟩ | h
   . rw [h]; exact .inl rfl
   . exact .inr h
theorem yK {ops : Array Oper} {rest : List Oper} {o : Oper} {a : Act} {Q : Exit -> Act -> World -> Prop} (hgd : o.guard = none) (s x : Operand) (t : TypeId)
  (ho : o.op = .call { callee := .builtin .append, args := #[s, x], argTypes := #[t, t] })
  (e : TypeId) (i : TypeInfo) (z : Value) (bytes : Nat) (ht : P.underlying t = some (.slice e)) (hi : P.info? e = some i) (hz : i.zero = some z)
  (hsize : i.size = size) (hby : i.bytes = bytes) (hzs : z.cells.size = size) (hsz : 0 < size)
  (A : OA) (n c : Nat) (xs : List Value) (hs : a.eval s = .slice A n c) (hown : w.ownsRow base e size (.slice A n c) n xs)
  (B : Nat) (A' : OA) (m c' : Nat) (ys : List Value) (hx : a.eval x = .slice A' m c') (hsl : Sl w B size A' m ys) (h1 : ∀ u ∈ ys, u.oneCell' = true) (hm : 0 < m)
  (h63 : n + m <= maxLen) (hbytes : (n + m) * bytes <= 140737488355328) (hbase : base <= w.heap.size)
  (h : ∀ A2 c2 w', w'.ownsRow base e size (.slice A2 (n + m) c2) (n + m) (xs ++ ys) -> w.grownBy w' (bkO A) -> n + m <= c2 -> c2 <= maxLen -> (∀ g, bkO A2 = some g -> bkO A = some g ∨ w.heap.size <= g) -> wpList P ops Q rest (a.put o.dst (.slice A2 (n + m) c2)) w') : wpList P ops Q (o :: rest) a w := by
 refine wpList_plain hgd fun K hK => ?_; obtain ⟨A2, c2, w', hr, ho', hg, hc1, hc2, hd⟩ := zt (P := P) t o.type i z bytes ht hi hz hsize hby hzs hsz hown (c' := c') hsl h1 hm h63 hbytes hbase; unfold Oper.wp; simp [execOp, ho, resolve, invoke, builtin, hs, hx, hr, Result.andThen]; exact hK _ _ (h A2 c2 w' ho' hg hc1 hc2 hd)
end
section
variable {w w' : World} {base n1 c1 n2 c2 n3 c3 : Nat} {e : TypeId} {A1 A2 A3 : OA} {l1 l2 l3 : List Dig}
end
end
structure RkS where
 ne : Dig -> Bool
 wh : Dig -> Bool
 wr : Bool
section
variable (p : List Itm) (pre : Bytes)
noncomputable def aW (s : RkS) (d : Dig) (k : Int) : RkS × Option Ob :=
 match ay p d with
 | none => ({ s with ne := aK s.ne d }, none)
 | some o => if o.kind = k then ({ s with ne := aK s.ne d }, some o) else ({ s with ne := aK s.ne d, wr := true }, none)
def BlK (s : RkS) (q : Bytes) (e : Ent) : Prop := e.dir = false -> pre <+: q ++ toL e.nm -> s.ne e.dg = true /\ ∀ o, ay p e.dg = some o -> o.kind ≠ 1 -> s.wr = true
inductive VisA (s : RkS) : Dig -> Bytes -> Prop
 | low {d : Dig} {q : Bytes} (h : pre <+: q) (w : s.wh d = true) : VisA s d q
 | high {d : Dig} {q : Bytes} (h : ¬ pre <+: q) (n : s.ne d = true) (k : ∀ o, ay p d = some o -> o.kind ≠ 2 -> s.wr = true)
     (hd : ∀ o e, ay p d = some o -> o.kind = 2 -> e ∈ o.ents -> e.dir = true -> touch pre (q ++ toL e.nm ++ [47]) -> VisA s e.dg (q ++ toL e.nm ++ [47]))
     (hb : ∀ o e, ay p d = some o -> o.kind = 2 -> e ∈ o.ents -> BlK p pre s q e) : VisA s d q
structure WhC (s : RkS) (d : Dig) : Prop where
 ne : s.ne d = true
 k : ∀ o, ay p d = some o -> o.kind ≠ 2 -> s.wr = true
 hd : ∀ o e, ay p d = some o -> o.kind = 2 -> e ∈ o.ents -> e.dir = true -> s.wh e.dg = true
 hb : ∀ o e, ay p d = some o -> o.kind = 2 -> e ∈ o.ents -> e.dir = false -> s.ne e.dg = true /\ ∀ o, ay p e.dg = some o -> o.kind ≠ 1 -> s.wr = true
end
structure LeK (s s' : RkS) : Prop where
 ne : ∀ d, s.ne d = true -> s'.ne d = true
 wh : ∀ d, s.wh d = true -> s'.wh d = true
 wr : s.wr = true -> s'.wr = true
theorem LeK.refl (s : RkS) : LeK s s := ⟨fun _ h => h, fun _ h => h, fun h => h⟩
theorem LeK.trans {a b c : RkS} (h : LeK a b) (k : LeK b c) : LeK a c := ⟨fun d x => k.ne d (h.ne d x), fun d x => k.wh d (h.wh d x), fun x => k.wr (h.wr x)⟩
section
variable {p : List Itm} {pre : Bytes} {hs : List Dig} {stop : Dig -> Prop} {dep : Int} {s s' : RkS}
theorem mf (s : RkS) (d : Dig) (k : Int) : LeK s (aW p s d k).1 := by
 unfold aW; have h : ∀ y, s.ne y = true -> aK s.ne d y = true := fun y hy => setB_true.2 (.inr hy); split
 . exact ⟨h, fun _ h => h, fun h => h⟩
 . split
   . exact ⟨h, fun _ h => h, fun h => h⟩
   . exact ⟨h, fun _ h => h, fun _ => rfl⟩
theorem lT (s : RkS) (d : Dig) (k : Int) : (aW p s d k).1.ne d = true := by
 have h : aK s.ne d d = true := setB_true.2 (.inl rfl); unfold aW; split
 . exact h
 . split <;> exact h
theorem lM (s : RkS) (d : Dig) (k : Int) {o : Ob} (h : ay p d = some o) (hk : o.kind ≠ k) : (aW p s d k).1.wr = true := by
 unfold aW; rw [h]; simp only; rw [if_neg hk]
theorem jM (s : RkS) (d : Dig) (k : Int) : (aW p s d k).1.wh = s.wh := by
 unfold aW; split
 . rfl
 . split <;> rfl
theorem BlK.mono (h : LeK s s') {q : Bytes} {e : Ent} (k : BlK p pre s q e) : BlK p pre s' q e :=
 fun a b => ⟨h.ne _ (k a b).1, fun o x y => h.wr ((k a b).2 o x y)⟩
theorem VisA.mono (h : LeK s s') {d : Dig} {q : Bytes} (k : VisA p pre s d q) : VisA p pre s' d q := by
 induction k with
 | low hp w => exact .low hp (h.wh _ w)
 | high hp n k _ hb ih => exact .high hp (h.ne _ n) (fun o g x => h.wr (k o g x)) ih (fun o e g x m => (hb o e g x m).mono h)
theorem WhC.mono (h : LeK s s') {d : Dig} (k : WhC p s d) : WhC p s' d :=
 ⟨h.ne _ k.ne, fun o g x => h.wr (k.k o g x), fun o e g x m y => h.wh _ (k.hd o e g x m y), fun o e g x m y => ⟨h.ne _ (k.hb o e g x m y).1, fun o' a b => h.wr ((k.hb o e g x m y).2 o' a b)⟩⟩
structure SndK (p : List Itm) (hs : List Dig) (stop : Dig -> Prop) (dep : Int) (pre : Bytes) (s : RkS) : Prop where
 ne : ∀ d, s.ne d = true -> Need p hs stop dep pre d
 wr : s.wr = true -> bZ p hs stop dep pre
theorem SndK.get (h : SndK p hs stop dep pre s) {d : Dig} {k : Int} (hd : Nd p hs stop dep pre d k) : SndK p hs stop dep pre (aW p s d k).1 := by
 have hn : ∀ y, aK s.ne d y = true -> Need p hs stop dep pre y := fun y hy => by
  rcases setB_true.1 hy with rfl | hy
  . exact ⟨k, hd⟩
  . exact h.ne y hy
 unfold aW; split
 . exact ⟨hn, h.wr⟩
 . rename_i o ho
   split
   . exact ⟨hn, h.wr⟩
   . rename_i hk; exact ⟨hn, fun _ => ⟨d, k, o, hd, ho, hk⟩⟩
theorem DN (hS : SndK p hs stop dep pre s) (hc : ∀ c, NC p hs stop dep c -> s.ne c = true /\ ∀ o, ay p c = some o -> (o.kind ≠ 3 -> s.wr = true) /\ (o.kind = 3 -> VisA p pre s o.tree [])) (hw : ∀ d, s.wh d = true -> WhC p s d) :
  (∀ d, s.ne d = true ↔ Need p hs stop dep pre d) /\ (s.wr = true ↔ bZ p hs stop dep pre) := by
 have hP : ∀ {d : Dig} {q : Bytes}, Plc p hs stop dep pre d q -> VisA p pre s d q := by
  intro d q h
  induction h with
  | root h g k => exact ((hc _ h).2 _ g).2 k
  | @sub d q o e h g k m hd t ih =>
    cases ih with
    | low hp w => exact .low (hp.trans (by rw [List.append_assoc]; exact List.prefix_append _ _)) ((hw d w).hd o e g k m hd)
    | high hp n k' hd' hb => exact hd' o e g k m hd t
 have hN : ∀ {d : Dig} {k : Int}, Nd p hs stop dep pre d k -> s.ne d = true /\ ∀ o, ay p d = some o -> o.kind ≠ k -> s.wr = true := by
  intro d k h; cases h with
  | com h => exact ⟨(hc d h).1, fun o ho hk => ((hc d h).2 o ho).1 hk⟩
  | dir h =>
    cases hP h with
    | low hp w => exact ⟨(hw d w).ne, (hw d w).k⟩
    | high hp n k' => exact ⟨n, k'⟩
  | @blob d q o e h g k m hd t =>
    cases hP h with
    | low hp w => exact (hw d w).hb o e g k m hd
    | high hp n k' hd' hb => exact hb o e g k m hd t
 exact ⟨fun d => ⟨hS.ne d, fun ⟨k, h⟩ => (hN h).1⟩, ⟨hS.wr, fun ⟨d, k, o, h1, h2, h3⟩ => (hN h1).2 o h2 h3⟩⟩
/-! ### one directory -/
theorem fG {s s' : RkS} {d : Dig} {k : Int} {o : Ob} (h : aW p s d k = (s', some o)) : ay p d = some o /\ o.kind = k := by
 unfold aW at h; split at h
 . cases h
 . split at h
   . rename_i o' h1 h2; cases h; exact ⟨h1, h2⟩
   . cases h
theorem kQ {s s' : RkS} {d : Dig} {k : Int} (h : aW p s d k = (s', none)) : ∀ o, ay p d = some o -> o.kind ≠ k /\ s'.wr = true := by
 intro o ho; unfold aW at h; rw [ho] at h; simp only at h; split at h
 . cases h
 . rename_i h2; cases h; exact ⟨h2, rfl⟩
structure EntK (p : List Itm) (pre : Bytes) (s : RkS) (q : Bytes) (e : Ent) : Prop where
 hd : e.dir = true -> touch pre (q ++ toL e.nm ++ [47]) -> VisA p pre s e.dg (q ++ toL e.nm ++ [47])
 hb : BlK p pre s q e
theorem EntK.mono (h : LeK s s') {q : Bytes} {e : Ent} (k : EntK p pre s q e) : EntK p pre s' q e := ⟨fun a b => (k.hd a b).mono h, k.hb.mono h⟩
theorem jN {pre q r : Bytes} (h : pre <+: q) : pre <+: q ++ r := h.trans (List.prefix_append _ _)
theorem Ct {s1 : RkS} {d : Dig} {q : Bytes} {r : Option Ob} (hq : ¬ pre <+: q) (hg : aW p s d 2 = (s1, r)) (hle : LeK s1 s') (he : ∀ o, r = some o -> ∀ e ∈ o.ents, EntK p pre s' q e) : VisA p pre s' d q := by
 have h1 := lT (p := p) s d 2; rw [hg] at h1; have h2 : ∀ o, ay p d = some o -> o.kind = 2 -> r = some o := fun o g k => by
  cases r with
  | none => exact absurd k (kQ hg o g).1
  | some o' => have := (fG hg).1; rw [g] at this; cases this; rfl
 refine .high hq (hle.ne _ h1) (fun o g k => ?_) (fun o e g k m hd t => (he o (h2 o g k) e m).hd hd t) (fun o e g k m => (he o (h2 o g k) e m).hb); have h3 := lM (p := p) s d 2 g k; rw [hg] at h3; exact hle.wr h3
theorem Er {s1 : RkS} {d : Dig} {q : Bytes} {r : Option Ob} (hq : pre <+: q) (hg : aW p { s with wh := aK s.wh d } d 2 = (s1, r)) (hle : LeK s1 s') (he : ∀ o, r = some o -> ∀ e ∈ o.ents, EntK p pre s' q e)
  (hn : ∀ x, s'.wh x = true -> s1.wh x = true ∨ WhC p s' x) : VisA p pre s' d q /\ ∀ x, s'.wh x = true -> s.wh x = true ∨ WhC p s' x := by
 have h1 := lT (p := p) { s with wh := aK s.wh d } d 2; have h0 := jM (p := p) { s with wh := aK s.wh d } d 2; rw [hg] at h1 h0; have h2 : ∀ o, ay p d = some o -> o.kind = 2 -> r = some o := fun o g k => by
  cases r with
  | none => exact absurd k (kQ hg o g).1
  | some o' => have := (fG hg).1; rw [g] at this; cases this; rfl
 have hw : s'.wh d = true := hle.wh _ (by rw [h0]; exact setB_true.2 (.inl rfl)); have hC : WhC p s' d := by
  refine ⟨hle.ne _ h1, fun o g k => ?_, fun o e g k m hd => ?_, fun o e g k m hd => (he o (h2 o g k) e m).hb hd (jN hq)⟩
  . have h3 := lM (p := p) { s with wh := aK s.wh d } d 2 g k
    rw [hg] at h3; exact hle.wr h3
  . have hp' : pre <+: q ++ toL e.nm ++ [47] := jN (jN hq)
    cases (he o (h2 o g k) e m).hd hd (.inl hp') with
    | low _ w => exact w
    | high hn => exact absurd hp' hn
 refine ⟨.low hq hw, fun x hx => ?_⟩; rcases hn x hx with hx | hx
 . rw [h0] at hx
   rcases setB_true.1 hx with rfl | hx
   . exact .inr hC
   . exact .inl hx
 . exact .inr hx
end
section
open Go.Maps
theorem FD {p : List Itm} {rs : List Dig} (hp : PlOk p) (hr : ∀ d ∈ rs, WfD d) {d : Dig} (h : d ∈ reU p rs) : WfD d := by
 rcases List.mem_append.1 h with h | h
 . exact hr d h
 . obtain ⟨i, hi, hd⟩ := List.mem_flatMap.1 h
   obtain ⟨o, ho, e⟩ := hp.1 i hi; rw [e, fq ho] at hd; exact Cz ho d hd
def zwC : Array Value := #[.slice none 0 0, .string ⟨#[]⟩, .slice none 0 0, .slice none 0 0, .slice none 0 0, .slice none 0 0, .bool false]
structure Lst7 (U : List Dig) (w : World) (A : OA) (n c : Nat) (l : List Dig) : Prop where
 s : Sl w w.heap.size 2 A n (flat dgC l)
 le : n <= c
 mx : c <= maxLen
 asc : AscD l
 u : ∀ d ∈ l, d ∈ U
theorem Lst7.bel {U : List Dig} {w w' : World} {A : OA} {n c : Nat} {l : List Dig} (h : Lst7 U w A n c l) (hb : Below w.heap.size w w') : Lst7 U w' A n c l := ⟨(h.s.below hb ai).more hb.size, h.le, h.mx, h.asc, h.u⟩
theorem AZ {l : List Dig} (h : AscD l) : l.Nodup := List.Pairwise.imp (fun h e => by rw [e] at h; exact dQ _ h) h
theorem Lst7.len {U : List Dig} {w : World} {A : OA} {n c : Nat} {l : List Dig} (h : Lst7 U w A n c l) (hu : U.length <= 9000) : n <= 9000 := by
 have h1 := h.s.len aS (by omega); have h2 := uL (AZ h.asc) h.u; omega
theorem Lst7.nil (U : List Dig) (w : World) : Lst7 U w none 0 0 [] := ⟨Sl.nil _ _ _ _, Nat.le_refl _, Nat.zero_le _, List.Pairwise.nil, fun d h => by cases h⟩
structure Rk7 (p : List Itm) (U : List Dig) (w : World) (s : RkS) (fA : OA) (fn fc : Nat) (mA : OA) (mn mc : Nat) (cA : OA) (cn cc : Nat) (hA : OA) (hn hc : Nat) (com : List Dig) : Prop where
 lists : ∃ f m h, Lst7 U w fA fn fc f /\ Lst7 U w mA mn mc m /\ Lst7 U w cA cn cc com /\ Lst7 U w hA hn hc h /\ (∀ d, s.ne d = true ↔ d ∈ f ∨ d ∈ m) /\ (∀ d ∈ f, ay p d ≠ none) /\ (∀ d ∈ m, ay p d = none) /\ ∀ d, s.wh d = true ↔ d ∈ h
theorem Rk7.bel {p : List Itm} {U : List Dig} {w w' : World} {s : RkS} {fA mA cA hA : OA} {fn fc mn mc cn cc hn hc : Nat} {com : List Dig} (h : Rk7 p U w s fA fn fc mA mn mc cA cn cc hA hn hc com) (hb : Below w.heap.size w w') : Rk7 p U w' s fA fn fc mA mn mc cA cn cc hA hn hc com := by
 obtain ⟨f, m, h, h1, h2, h3, h4, h5⟩ := h; exact ⟨f, m, h, h1.bel hb, h2.bel hb, h3.bel hb, h4.bel hb, h5⟩
def rkV (pA : OA) (pn pc : Nat) (pre : ByteArray) (fA : OA) (fn fc : Nat) (mA : OA) (mn mc : Nat) (cA : OA) (cn cc : Nat) (hA : OA) (hn hc : Nat) (wr : Bool) : Value :=
 .agg #[.slice pA pn pc, .string pre, .slice fA fn fc, .slice mA mn mc, .slice cA cn cc, .slice hA hn hc, .bool wr]
def OnF (w : World) (A : OA) (n : Nat) (A' : OA) (n' : Nat) : Prop := (A' = A /\ n' = n) ∨ ∀ a, A' = some a -> w.heap.size <= a.block
theorem jF {w W5 w6 : World} {t : TypeId} {A0 A6 : OA} {c0 c6 : Nat} {m l' : List Dig} (hW : w.heap.size <= W5.heap.size) (hw : (A6 = A0 /\ c6 = c0 /\ l' = m) ∨ Apd w6 W5.heap.size t 2 A6 l'.length c6 (flat dgC l')) {d : Dig} (hd : d ∈ l') {n0 : Nat} (hn : m.length = n0) : OnF w A0 n0 A6 l'.length := by
 rcases hw with ⟨h, _, h2⟩ | hw
 . exact .inl ⟨h, by rw [h2]; exact hn⟩
 . refine .inr fun a ha => ?_
   rcases hw with hw | ⟨h, _⟩
   . have := (hw.lt a.block (by rw [jR, ha]; rfl)).1
     omega
   . rw [List.eq_nil_of_length_eq_zero h] at hd; cases hd
def G7E (p : List Itm) (U : List Dig) (pA : OA) (pn pc : Nat) (pre : ByteArray) (fA0 : OA) (fn0 : Nat) (mA0 : OA) (mn0 : Nat) (cA : OA) (cn cc : Nat) (hA : OA) (hn hc : Nat) (com : List Dig) (s : RkS) (d : Dig) (k : Int) (w : World) (e : Ending) (w' : World) : Prop :=
 ∃ (o : Ob) (sl : Osl) (fA : OA) (fn fc : Nat) (mA : OA) (mn mc : Nat) (ok : Bool),
  e = .returned (.tuple #[obV o sl, rkV pA pn pc pre fA fn fc mA mn mc cA cn cc hA hn hc (aW p s d k).1.wr, .bool ok]) /\ Rk7 p U w' (aW p s d k).1 fA fn fc mA mn mc cA cn cc hA hn hc com ∧
  ((ok = false /\ (aW p s d k).2 = none) ∨ (ok = true /\ (aW p s d k).2 = some o /\ OkO o /\ ObM w' w'.heap.size o sl)) /\ Below w.heap.size w w' /\ OnF w fA0 fn0 fA fn /\ OnF w mA0 mn0 mA mn
theorem qj {w w' : World} {B B' size n : Nat} {A : OA} {xs : List Value} (h : Sl w B size A n xs) (hk : 0 < n -> ∀ k, k < B -> bkO A = some k -> w'.heap[k]? = w.heap[k]?) (hB : B <= B') : Sl w' B' size A n xs := by
 refine ⟨h.1, fun h0 => ?_⟩; obtain ⟨b', off, rfl, hb', hc⟩ := h.2 h0; exact ⟨b', off, rfl, by omega, fun j u hu => (World.cell?_of_block (hk h0 b' hb' rfl)).trans (hc j u hu)⟩
theorem aR {w : World} {b : Nat} {t : TypeId} {x0 x1 x2 x3 x4 x5 x6 : Value} (h : Bk w b t #[x0, x1, x2, x3, x4, x5, x6]) : w.cell? ⟨b, 0, none⟩ = some x0 /\ w.cell? ⟨b, 1, none⟩ = some x1 /\ w.cell? ⟨b, 2, none⟩ = some x2 /\ w.cell? ⟨b, 3, none⟩ = some x3 /\ w.cell? ⟨b, 4, none⟩ = some x4 /\ w.cell? ⟨b, 5, none⟩ = some x5 /\ w.cell? ⟨b, 6, none⟩ = some x6 := by
 have c0 := h.cell 0; have c1 := h.cell 1; have c2 := h.cell 2; have c3 := h.cell 3; have c4 := h.cell 4; have c5 := h.cell 5; have c6 := h.cell 6; simp at c0 c1 c2 c3 c4 c5 c6; exact ⟨c0, c1, c2, c3, c4, c5, c6⟩
theorem gm {w : World} {b' k : Nat} (h : k ≠ b') (y0 y1 y2 y3 y4 y5 y6 y7 y8 : Value) : (((((((((w.setCell ⟨b', 0, none⟩ y0).setCell ⟨b', 1, none⟩ y1).setCell ⟨b', 2, none⟩ y2).setCell ⟨b', 3, none⟩ y3).setCell ⟨b', 4, none⟩ y4).setCell ⟨b', 5, none⟩ y5).setCell ⟨b', 6, none⟩ y6).setCell ⟨b', 7, none⟩ y7).setCell ⟨b', 8, none⟩ y8).heap[k]? = w.heap[k]? := by repeat rw [Below.heap_setCell _ _ _ k h]
theorem iP {w : World} {b b' : Nat} {t : TypeId} {cs : Array Value} (hk : Bk w b t cs) (h : b ≠ b') (y0 y1 y2 y3 y4 y5 y6 y7 y8 : Value) : Bk (((((((((w.setCell ⟨b', 0, none⟩ y0).setCell ⟨b', 1, none⟩ y1).setCell ⟨b', 2, none⟩ y2).setCell ⟨b', 3, none⟩ y3).setCell ⟨b', 4, none⟩ y4).setCell ⟨b', 5, none⟩ y5).setCell ⟨b', 6, none⟩ y6).setCell ⟨b', 7, none⟩ y7).setCell ⟨b', 8, none⟩ y8) b t cs := (gm h y0 y1 y2 y3 y4 y5 y6 y7 y8).trans hk
theorem cK {w : World} {b' k : Nat} (h : k ≠ b') (y0 y1 y2 y3 y4 y5 y6 : Value) : (((((((w.setCell ⟨b', 0, none⟩ y0).setCell ⟨b', 1, none⟩ y1).setCell ⟨b', 2, none⟩ y2).setCell ⟨b', 3, none⟩ y3).setCell ⟨b', 4, none⟩ y4).setCell ⟨b', 5, none⟩ y5).setCell ⟨b', 6, none⟩ y6).heap[k]? = w.heap[k]? := by repeat rw [Below.heap_setCell _ _ _ k h]
theorem dW {w : World} {b b' : Nat} {t : TypeId} {cs : Array Value} (hk : Bk w b t cs) (h : b ≠ b') (y0 y1 y2 y3 y4 y5 y6 : Value) : Bk (((((((w.setCell ⟨b', 0, none⟩ y0).setCell ⟨b', 1, none⟩ y1).setCell ⟨b', 2, none⟩ y2).setCell ⟨b', 3, none⟩ y3).setCell ⟨b', 4, none⟩ y4).setCell ⟨b', 5, none⟩ y5).setCell ⟨b', 6, none⟩ y6) b t cs := (cK h y0 y1 y2 y3 y4 y5 y6).trans hk
theorem dE {w : World} {b : Nat} {t : TypeId} {x0 x1 x2 x3 x4 x5 x6 : Value} (h : Bk w b t #[x0, x1, x2, x3, x4, x5, x6]) (y0 y1 y2 y3 y4 y5 y6 : Value) : Bk (((((((w.setCell ⟨b, 0, none⟩ y0).setCell ⟨b, 1, none⟩ y1).setCell ⟨b, 2, none⟩ y2).setCell ⟨b, 3, none⟩ y3).setCell ⟨b, 4, none⟩ y4).setCell ⟨b, 5, none⟩ y5).setCell ⟨b, 6, none⟩ y6) b t #[y0, y1, y2, y3, y4, y5, y6] := by
 have := ((((((h.set 0 y0).set 1 y1).set 2 y2).set 3 y3).set 4 y4).set 5 y5).set 6 y6
 simpa using this
theorem dD {B b : Nat} {w w' : World} (h : Below B w w') (hb : B <= b) (y0 y1 y2 y3 y4 y5 y6 : Value) : Below B w (((((((w'.setCell ⟨b, 0, none⟩ y0).setCell ⟨b, 1, none⟩ y1).setCell ⟨b, 2, none⟩ y2).setCell ⟨b, 3, none⟩ y3).setCell ⟨b, 4, none⟩ y4).setCell ⟨b, 5, none⟩ y5).setCell ⟨b, 6, none⟩ y6) :=
 ((((((h.setCell (p := ⟨b, 0, none⟩) hb y0).setCell (p := ⟨b, 1, none⟩) hb y1).setCell (p := ⟨b, 2, none⟩) hb y2).setCell (p := ⟨b, 3, none⟩) hb y3).setCell (p := ⟨b, 4, none⟩) hb y4).setCell (p := ⟨b, 5, none⟩) hb y5).setCell (p := ⟨b, 6, none⟩) hb y6
theorem qb {fn : Func} {c i j : Tmp} (h : fn.results = #[.cell c 75, .cell i 70, .tmp j]) {w : World} {a : Array Value} {b b' : Nat} {u x0 x1 x2 x3 x4 x5 x6 z0 z1 z2 z3 z4 z5 z6 z7 z8 : Value} (ha : a[c]?.getD undef = .pointer (some ⟨b, 0, none⟩)) (hk : Bk w b 75 #[z0, z1, z2, z3, z4, z5, z6, z7, z8]) (ha' : a[i]?.getD undef = .pointer (some ⟨b', 0, none⟩)) (hk' : Bk w b' 70 #[x0, x1, x2, x3, x4, x5, x6]) (hv : a[j]?.getD undef = u) :
  (results fn a).run Tryz.prog w = .ok (.tuple #[.agg #[z0, z1, z2, z3, z4, z5, z6, z7, z8], .agg #[x0, x1, x2, x3, x4, x5, x6], u]) w := by
 obtain ⟨h0, h1, h2, h3, h4, h5, h6, h7, h8⟩ := hk.nine; obtain ⟨k0, k1, k2, k3, k4, k5, k6⟩ := aR hk'; simp [results, h, ha, ha', hv, go_sem, h0, h1, h2, h3, h4, h5, h6, h7, h8, k0, k1, k2, k3, k4, k5, k6]
theorem gU {w w' : World} {B b : Nat} {t : TypeId} {o : Ob} {s : Osl} {A0 A2 A3 A4 A5 : OA} {n0 c0 n2 c2 n3 c3 n4 c4 n5 c5 : Nat} {q : ByteArray} {v : Bool} (h : ObM w B o s) (hz : Bk w b t #[.slice A0 n0 c0, .string q, .slice A2 n2 c2, .slice A3 n3 c3, .slice A4 n4 c4, .slice A5 n5 c5, .bool v]) (hw : ∀ k, k ≠ b -> w'.heap[k]? = w.heap[k]?) : ObM w' B o s := by
 refine ⟨h.e.ne (b := b) ?_ hw, h.p.ne (b := b) ?_ hw, h.ele, h.emx, h.ple, h.pmx⟩
 . rintro a h0 ha rfl
   obtain ⟨b', off, e, rfl', _, _, h1, h2, _⟩ := h.e.en h0; rw [ha] at rfl'; cases rfl'
   rw [hz.cell] at h1 h2; simp only [Nat.zero_mul, Nat.add_zero] at h1 h2
   match off, h1, h2 with
   | 0, h1, _ | 2, h1, _ | 3, h1, _ | 4, h1, _ | 5, h1, _ | 6, h1, _ => simp at h1
   | 1, _, h2 => simp at h2
   | j + 7, h1, _ => simp at h1
 . rintro a h0 ha rfl
   obtain ⟨b', off, d, rfl', _, _, h1, _⟩ := h.p.dg h0; rw [ha] at rfl'; cases rfl'
   rw [hz.cell] at h1; simp only [Nat.zero_mul, Nat.add_zero] at h1
   match off, h1 with
   | 0, h1 | 1, h1 | 2, h1 | 3, h1 | 4, h1 | 5, h1 | 6, h1 => simp at h1
   | j + 7, h1 => simp at h1
theorem iE {U : List Dig} {w W5 w6 wF : World} {A0 A6 : OA} {n0 c0 c6 : Nat} {m l' : List Dig} {d : Dig} (h0 : Lst7 U w A0 n0 c0 m) (hF : Below w.heap.size w wF) (hup : ∀ k, W5.heap.size <= k -> wF.heap[k]? = w6.heap[k]?) (hz : w6.heap.size <= wF.heap.size) (hd : d ∈ U)
  (ha : AscD l') (hm : ∀ x, x ∈ l' ↔ x = d ∨ x ∈ m) (hw : (A6 = A0 /\ c6 = c0 /\ l' = m) ∨ Apd w6 W5.heap.size 42 2 A6 l'.length c6 (flat dgC l')) (hlc : l'.length <= c6) (hcm : c6 <= maxLen) : Lst7 U wF A6 l'.length c6 l' := by
 refine ⟨?_, hlc, hcm, ha, fun x hx => ?_⟩
 . rcases hw with ⟨rfl, rfl, rfl⟩ | hw
   . have := (h0.bel hF).s
     rwa [<- h0.s.len aS (by omega)] at this
   . refine qj hw.sl (fun hn k hk hb => hup k ?_) hz
     rcases hw with hw | ⟨hw, _⟩
     . exact (hw.lt k (by rw [jR]; exact hb)).1
     . omega
 . rcases (hm x).1 hx with rfl | h
   . exact hd
   . exact h0.u x h
theorem nX (p : List Itm) (U : List Dig) (pA : OA) (pn pc : Nat) (pre : ByteArray) (fA : OA) (fn fc : Nat) (mA : OA) (mn mc : Nat) (cA : OA) (cn cc : Nat) (hA : OA) (hn hc : Nat) (com : List Dig) (s0 : RkS) (d : Dig) (k : Int) (w : World)
  (hp : Sl w w.heap.size 3 pA pn (flat itC p)) (hk : Rk7 p U w s0 fA fn fc mA mn mc cA cn cc hA hn hc com) (hpn : pn <= 40) (hpo : PlOk p) (hd : d ∈ U) (hU : U.length <= 9000) (hw : WfD d) :
  Calls Tryz.prog 79 #[rkV pA pn pc pre fA fn fc mA mn mc cA cn cc hA hn hc s0.wr, az d, .int .i64 k] w (G7E p U pA pn pc pre fA fn mA mn cA cn cc hA hn hc com s0 d k w) := by
 obtain ⟨d1, d2⟩ := d; have HD := ah hd; have HPO := ah hpo; have HK := ah hk; obtain ⟨W0, hW0⟩ : ∃ W, (((w.alloc (.cells #[.slice pA pn pc, .string pre, .slice fA fn fc, .slice mA mn mc, .slice cA cn cc, .slice hA hn hc, .bool s0.wr] 70)).alloc (.cells #[.int .u64 d1, .int .u64 d2] 42)).alloc (.cells #[.int .i64 0, .string ⟨#[]⟩, .slice none 0 0, .int .u64 0, .int .u64 0, .slice none 0 0, .string ⟨#[]⟩, .int .i64 0, .string ⟨#[]⟩] 75)).alloc (.cells #[.slice none 0 0, .string ⟨#[]⟩, .slice none 0 0, .slice none 0 0, .slice none 0 0, .slice none 0 0, .bool false] 70) = W := ⟨_, rfl⟩
 have HB0 : Hid (Below w.heap.size w W0) := by rw [<- hW0]; exact (((((Below.refl _ w).alloc ai _).alloc (by simp) _).alloc (by simp <;> omega) _).alloc (by simp <;> omega) _)
 have HK0 : Hid (Bk W0 w.heap.size 70 #[.slice pA pn pc, .string pre, .slice fA fn fc, .slice mA mn mc, .slice cA cn cc, .slice hA hn hc, .bool s0.wr]) := by rw [<- hW0]; exact (((Bk.new w _ _).alloc _).alloc _).alloc _
 have HKd : Hid (Bk W0 (w.heap.size + 1) 42 #[.int .u64 d1, .int .u64 d2]) := by
  have := Bk.new (w.alloc (.cells #[.slice pA pn pc, .string pre, .slice fA fn fc, .slice mA mn mc, .slice cA cn cc, .slice hA hn hc, .bool s0.wr] 70)) 42 #[.int .u64 d1, .int .u64 d2]; rw [World.size_alloc] at this; rw [<- hW0]; exact (this.alloc _).alloc _
 have HKo : Hid (Bk W0 (w.heap.size + 1 + 1) 75 zrC) := by
  have := Bk.new ((w.alloc (.cells #[.slice pA pn pc, .string pre, .slice fA fn fc, .slice mA mn mc, .slice cA cn cc, .slice hA hn hc, .bool s0.wr] 70)).alloc (.cells #[.int .u64 d1, .int .u64 d2] 42)) 75 #[.int .i64 0, .string ⟨#[]⟩, .slice none 0 0, .int .u64 0, .int .u64 0, .slice none 0 0, .string ⟨#[]⟩, .int .i64 0, .string ⟨#[]⟩]; rw [World.size_alloc, World.size_alloc] at this; rw [<- hW0]; exact this.alloc _
 have HKw : Hid (Bk W0 (w.heap.size + 1 + 1 + 1) 70 zwC) := by
  have := Bk.new (((w.alloc (.cells #[.slice pA pn pc, .string pre, .slice fA fn fc, .slice mA mn mc, .slice cA cn cc, .slice hA hn hc, .bool s0.wr] 70)).alloc (.cells #[.int .u64 d1, .int .u64 d2] 42)).alloc (.cells #[.int .i64 0, .string ⟨#[]⟩, .slice none 0 0, .int .u64 0, .int .u64 0, .slice none 0 0, .string ⟨#[]⟩, .int .i64 0, .string ⟨#[]⟩] 75)) 70 #[.slice none 0 0, .string ⟨#[]⟩, .slice none 0 0, .slice none 0 0, .slice none 0 0, .slice none 0 0, .bool false]; rw [World.size_alloc, World.size_alloc, World.size_alloc] at this; rw [<- hW0]; exact this
 have z0 : w.heap.size + 1 + 1 + 1 < W0.heap.size := HKw.out.lt; have HP0 := ah ((hp.below HB0.out ai).more HB0.out.size); have HG := ah (oK pA pn pc W0.heap.size p (d1, d2) W0 HP0.out ai (by omega) HPO.out); unfold mR at HG; simp only [az] at HG; unfold rkV az; obtain ⟨x0, x1, x2, x3, x4, x5, x6⟩ := aR HK0.out; obtain ⟨y0, y1, _, _⟩ := HKd.out.two; have HW0 := ah hW0; rw [<- hW0] at x0 x1 x2 x3 x4 x5 x6 y0 y1; clear hd hpo hk hp hW0
 go_enter Tryz.func79, Tryz.ntmps79
 go_wp2_with fail; rw [HW0.out]; refine HG.out.mono ?_; rintro e w4 ⟨hq, hb4⟩; have HB4 : Hid (Below w.heap.size w w4) := HB0.out.trans (hb4.mono HB0.out.size); have HK4 := ah (HK0.out.below hb4 HK0.out.lt); have HKd4 := ah (HKd.out.below hb4 HKd.out.lt); have HKo4 := ah (HKo.out.below hb4 HKo.out.lt); have HKw4 := ah (HKw.out.below hb4 HKw.out.lt); have z4 : w.heap.size + 1 + 1 + 1 < w4.heap.size := HKw4.out.lt; clear hb4 HG x0 x1 x2 x3 x4 x5 x6 y0 y1 HW0 HB0 HK0 HKd HKo HKw HP0; rcases hq with ⟨o, s, hg, hok, rfl, hom⟩ | ⟨hg, rfl⟩
 case inr =>
  have HGN := ah hg; simp only [obV, obC, zOb, zOs, zD]; obtain ⟨W5, hW5⟩ : ∃ W, w4.alloc (.cells #[.int .i64 0, .string ⟨#[]⟩, .slice none 0 0, .int .u64 0, .int .u64 0, .slice none 0 0, .string ⟨#[]⟩, .int .i64 0, .string ⟨#[]⟩] 75) = W := ⟨_, rfl⟩
  have hb5 : Below w4.heap.size w4 W5 := by rw [<- hW5]; exact (Below.refl _ w4).alloc ai _
  have HB5 : Hid (Below w.heap.size w W5) := HB4.out.trans (hb5.mono HB4.out.size); have HKn5 : Hid (Bk W5 w4.heap.size 75 zrC) := by rw [<- hW5]; exact Bk.new w4 _ _
  have HK5 := ah (HK4.out.below hb5 HK4.out.lt); have HKd5 := ah (HKd4.out.below hb5 HKd4.out.lt); have HKo5 := ah (HKo4.out.below hb5 HKo4.out.lt); have HKw5 := ah (HKw4.out.below hb5 HKw4.out.lt); have z5 : w4.heap.size < W5.heap.size := HKn5.out.lt; obtain ⟨f, m, h, L1, L2, L3, L4, hne, hf, hm, hh⟩ := HK.out.lists; have L25 := L2.bel HB5.out; have hmn : mn <= 9000 := L2.len hU; have HWI := ah (iB mA mn mc W5.heap.size m (d1, d2) W5 L25.s ai L2.le L2.mx (by omega) L2.asc); unfold iw at HWI; simp only [az] at HWI; obtain ⟨x0, x1, x2, x3, x4, x5, x6⟩ := aR HK5.out; obtain ⟨y0, y1, _, _⟩ := HKd5.out.two; rw [<- hW5] at x0 x1 x2 x3 x4 x5 x6 y0 y1; have HWa := ah hW5; have HL := ah (And.intro L1 (And.intro L2 (And.intro L3 (And.intro L4 (And.intro hne (And.intro hf (And.intro hm hh))))))); clear hW5 hb5 hg L1 L2 L3 L4 hne hf hm hh L25; go_wp2_with fail; rw [HWa.out]; refine HWI.out.mono ?_; rintro e w6 ⟨l', A6, c6, hasc, hmem, hlen, rfl, hwh, hlc, hcm, hb6⟩; have HB6 : Hid (Below W5.heap.size W5 w6) := hb6; have HW6 : Hid (Below w.heap.size w w6) := HB5.out.trans (hb6.mono HB5.out.size); have HK6 := ah (HK5.out.below hb6 HK5.out.lt); have HKo6 := ah (HKo5.out.below hb6 HKo5.out.lt); have HKw6 := ah (HKw5.out.below hb6 HKw5.out.lt); have HKn6 := ah (HKn5.out.below hb6 HKn5.out.lt); have HA := ah hasc; have HME := ah hmem; have HWH := ah hwh; have z6 : W5.heap.size <= w6.heap.size := hb6.size; clear hasc hmem hwh hb6 HWI x0 x1 x2 x3 x4 x5 x6 y0 y1 HWa HK5 HKo5 HKw5 HKn5 HKd5 HB5; obtain ⟨x0, x1, x2, x3, x4, x5, x6⟩ := aR HK6.out; obtain ⟨q0, q1, q2, q3, q4, q5, q6, q7, q8⟩ := HKn6.out.nine; have f0 := HK6.out.free 3; have n1 : w.heap.size ≠ w.heap.size + 1 + 1 := by omega
  have n2 : w.heap.size ≠ w.heap.size + 1 + 1 + 1 := by omega
  have n3 : w.heap.size + 1 + 1 ≠ w.heap.size + 1 + 1 + 1 := by omega
  have n4 : w.heap.size ≠ w4.heap.size := by omega
  have n5 : w.heap.size + 1 + 1 ≠ w4.heap.size := by omega
  have n6 : w.heap.size + 1 + 1 + 1 ≠ w4.heap.size := by omega
  obtain ⟨_, _, _, _, _, _, _, _, _⟩ := HKo6.out.nine; obtain ⟨_, _, _, _, _, _, _⟩ := aR HKw6.out; obtain ⟨o0, o1, o2, o3, o4, o5, o6, o7, o8⟩ := fr9 HKo6.out; obtain ⟨v0, v1, v2, v3, v4, v5, v6⟩ := fr7 HKw6.out; go_wp2_with fail
  go_region
  go_wp2_with fail; refine bodyPost_ret (qb Tryz.results79 rfl (dW (aQ (HKo6.out.far (p := ⟨w.heap.size, 3, none⟩) (by show _ ≠ w.heap.size; omega) (.slice A6 l'.length c6)) _ _ _ _ _ _ _ _ _) (by omega) _ _ _ _ _ _ _).drew rfl (dE (iP (HKw6.out.far (p := ⟨w.heap.size, 3, none⟩) (by show _ ≠ w.heap.size; omega) (.slice A6 l'.length c6)) (by omega) _ _ _ _ _ _ _ _ _) _ _ _ _ _ _ _).drew rfl) rfl ?_; obtain ⟨L1, L2, L3, L4, hne, hf, hm, hh⟩ := HL.out; have hgk : aW p s0 (d1, d2) k = ({ s0 with ne := aK s0.ne (d1, d2) }, none) := by unfold aW; rw [HGN.out]
  obtain ⟨X, hX⟩ : ∃ X, (((((((((((((((((w6.setCell ⟨w.heap.size, 3, none⟩ (.slice A6 l'.length c6)).setCell ⟨w.heap.size + 1 + 1, 0, none⟩ (.int .i64 0)).setCell ⟨w.heap.size + 1 + 1, 1, none⟩ (.string ⟨#[]⟩)).setCell ⟨w.heap.size + 1 + 1, 2, none⟩ (.slice none 0 0)).setCell ⟨w.heap.size + 1 + 1, 3, none⟩ (.int .u64 0)).setCell ⟨w.heap.size + 1 + 1, 4, none⟩ (.int .u64 0)).setCell ⟨w.heap.size + 1 + 1, 5, none⟩ (.slice none 0 0)).setCell ⟨w.heap.size + 1 + 1, 6, none⟩ (.string ⟨#[]⟩)).setCell ⟨w.heap.size + 1 + 1, 7, none⟩ (.int .i64 0)).setCell ⟨w.heap.size + 1 + 1, 8, none⟩ (.string ⟨#[]⟩)).setCell ⟨w.heap.size + 1 + 1 + 1, 0, none⟩ (.slice pA pn pc)).setCell ⟨w.heap.size + 1 + 1 + 1, 1, none⟩ (.string pre)).setCell ⟨w.heap.size + 1 + 1 + 1, 2, none⟩ (.slice fA fn fc)).setCell ⟨w.heap.size + 1 + 1 + 1, 3, none⟩ (.slice A6 l'.length c6)).setCell ⟨w.heap.size + 1 + 1 + 1, 4, none⟩ (.slice cA cn cc)).setCell ⟨w.heap.size + 1 + 1 + 1, 5, none⟩ (.slice hA hn hc)).setCell ⟨w.heap.size + 1 + 1 + 1, 6, none⟩ (.bool s0.wr)) = X := ⟨_, rfl⟩
  have hBX : Below w.heap.size w X := by
   rw [<- hX]; exact dD (aP (HW6.out.setCell (p := ⟨w.heap.size, 3, none⟩) ai _) (by omega : w.heap.size <= w.heap.size + 1 + 1) _ _ _ _ _ _ _ _ _) (by omega : w.heap.size <= w.heap.size + 1 + 1 + 1) _ _ _ _ _ _ _
  have hup : ∀ k, W5.heap.size <= k -> X.heap[k]? = w6.heap[k]? := fun k hk => by
   have k1 : k ≠ w.heap.size + 1 + 1 + 1 := by omega
   have k2 : k ≠ w.heap.size + 1 + 1 := by omega
   have k3 : k ≠ w.heap.size := by omega
   rw [<- hX, cK k1, gm k2]; exact Below.heap_setCell _ _ _ k k3
  have hzX : w6.heap.size <= X.heap.size := by rw [<- hX]; simp
  rw [hX]; clear hX; have hBF : Below w.heap.size w X.drew := hBX.drew; have hup2 : ∀ k, W5.heap.size <= k -> X.drew.heap[k]? = w6.heap[k]? := hup; have hzF : w6.heap.size <= X.drew.heap.size := hzX; refine ⟨zOb, zOs, fA, fn, fc, A6, l'.length, c6, false, by rw [hgk]; rfl, ?_, .inl ⟨rfl, by rw [hgk]⟩, hBF, .inl ⟨rfl, rfl⟩, jF (by omega) HWH.out ((HME.out _).2 (.inl rfl)) (L2.s.len aS (by omega))⟩; rw [hgk]; refine ⟨f, l', h, L1.bel hBF, iE L2 hBF hup2 hzF HD.out HA.out HME.out HWH.out hlc hcm, L3.bel hBF, L4.bel hBF, fun x => ?_, hf, fun x hx => ?_, hh⟩
  . rw [HME.out, setB_true, hne]
    constructor
    . rintro (h | h | h)
      . exact .inr (.inl h)
      . exact .inl h
      . exact .inr (.inr h)
    . rintro (h | h | h)
      . exact .inr (.inl h)
      . exact .inl h
      . exact .inr (.inr h)
  . rcases (HME.out x).1 hx with rfl | h
    . exact HGN.out
    . exact hm x h
 case inl =>
  have HGS := ah hg; have HOK := ah hok; have HOM4 := ah hom; simp only [obV, obC]; obtain ⟨W5, hW5⟩ : ∃ W, w4.alloc (.cells #[.int .i64 o.kind, .string o.data, .slice s.eA s.en s.ec, .int .u64 o.tree.1, .int .u64 o.tree.2, .slice s.pA s.pn s.pc, .string o.auth, .int .i64 o.time, .string o.msg] 75) = W := ⟨_, rfl⟩
  have hb5 : Below w4.heap.size w4 W5 := by rw [<- hW5]; exact (Below.refl _ w4).alloc ai _
  have HB5 : Hid (Below w.heap.size w W5) := HB4.out.trans (hb5.mono HB4.out.size); have HOM5 := ah (hom.below hb5 ai); have HKn5 : Hid (Bk W5 w4.heap.size 75 #[.int .i64 o.kind, .string o.data, .slice s.eA s.en s.ec, .int .u64 o.tree.1, .int .u64 o.tree.2, .slice s.pA s.pn s.pc, .string o.auth, .int .i64 o.time, .string o.msg]) := by rw [<- hW5]; exact Bk.new w4 _ _
  have HK5 := ah (HK4.out.below hb5 HK4.out.lt); have HKd5 := ah (HKd4.out.below hb5 HKd4.out.lt); have HKo5 := ah (HKo4.out.below hb5 HKo4.out.lt); have HKw5 := ah (HKw4.out.below hb5 HKw4.out.lt); have z5 : w4.heap.size < W5.heap.size := HKn5.out.lt; obtain ⟨f, m, h, L1, L2, L3, L4, hne, hf, hm, hh⟩ := HK.out.lists; have L15 := L1.bel HB5.out; have hfn : fn <= 9000 := L1.len hU; have HWI := ah (iB fA fn fc W5.heap.size f (d1, d2) W5 L15.s ai L1.le L1.mx (by omega) L1.asc); unfold iw at HWI; simp only [az] at HWI; obtain ⟨x0, x1, x2, x3, x4, x5, x6⟩ := aR HK5.out; obtain ⟨y0, y1, _, _⟩ := HKd5.out.two; rw [<- hW5] at x0 x1 x2 x3 x4 x5 x6 y0 y1; have HWa := ah hW5; have HL := ah (And.intro L1 (And.intro L2 (And.intro L3 (And.intro L4 (And.intro hne (And.intro hf (And.intro hm hh))))))); clear hW5 hb5 hg hok hom L1 L2 L3 L4 hne hf hm hh L15 HOM4; go_wp2_with fail; rw [HWa.out]; refine HWI.out.mono ?_; rintro e w6 ⟨l', A6, c6, hasc, hmem, hlen, rfl, hwh, hlc, hcm, hb6⟩; have HB6 : Hid (Below W5.heap.size W5 w6) := hb6; have HW6 : Hid (Below w.heap.size w w6) := HB5.out.trans (hb6.mono HB5.out.size); have HK6 := ah (HK5.out.below hb6 HK5.out.lt); have HKo6 := ah (HKo5.out.below hb6 HKo5.out.lt); have HKw6 := ah (HKw5.out.below hb6 HKw5.out.lt); have HKn6 := ah (HKn5.out.below hb6 HKn5.out.lt); have HA := ah hasc; have HME := ah hmem; have HWH := ah hwh; have z6 : W5.heap.size <= w6.heap.size := hb6.size; have HOM6 := ah (HOM5.out.below hb6 (by omega)); clear hasc hmem hwh hb6 HWI x0 x1 x2 x3 x4 x5 x6 y0 y1 HWa HK5 HKo5 HKw5 HKn5 HKd5 HB5; obtain ⟨x0, x1, x2, x3, x4, x5, x6⟩ := aR HK6.out; obtain ⟨q0, q1, q2, q3, q4, q5, q6, q7, q8⟩ := HKn6.out.nine; have f0 := HK6.out.free 2; have f6 := HK6.out.free 6; have n1 : w.heap.size ≠ w.heap.size + 1 + 1 := by omega
  have n2 : w.heap.size ≠ w.heap.size + 1 + 1 + 1 := by omega
  have n3 : w.heap.size + 1 + 1 ≠ w.heap.size + 1 + 1 + 1 := by omega
  have n4 : w.heap.size ≠ w4.heap.size := by omega
  have n5 : w.heap.size + 1 + 1 ≠ w4.heap.size := by omega
  have n6 : w.heap.size + 1 + 1 + 1 ≠ w4.heap.size := by omega
  obtain ⟨_, _, _, _, _, _, _, _, _⟩ := HKo6.out.nine; obtain ⟨_, _, _, _, _, _, _⟩ := aR HKw6.out; obtain ⟨o0, o1, o2, o3, o4, o5, o6, o7, o8⟩ := fr9 HKo6.out; obtain ⟨v0, v1, v2, v3, v4, v5, v6⟩ := fr7 HKw6.out; by_cases hkk : o.kind = k
  case pos =>
   have hkb : (o.kind != k) = false := by rw [hkk]; simp
   have hgk : aW p s0 (d1, d2) k = ({ s0 with ne := aK s0.ne (d1, d2) }, some o) := by unfold aW; rw [HGS.out]; simp only; rw [if_pos hkk]
   have HGK := ah hgk; clear hkk hgk; go_wp2_with fail
   go_region
   go_wp2_with fail; refine bodyPost_ret (qb Tryz.results79 rfl (dW (aQ (HKo6.out.far (p := ⟨w.heap.size, 2, none⟩) (by show _ ≠ w.heap.size; omega) (.slice A6 l'.length c6)) _ _ _ _ _ _ _ _ _) (by omega) _ _ _ _ _ _ _).drew rfl (dE (iP (HKw6.out.far (p := ⟨w.heap.size, 2, none⟩) (by show _ ≠ w.heap.size; omega) (.slice A6 l'.length c6)) (by omega) _ _ _ _ _ _ _ _ _) _ _ _ _ _ _ _).drew rfl) rfl ?_; obtain ⟨L1, L2, L3, L4, hne, hf, hm, hh⟩ := HL.out; obtain ⟨X, hX⟩ : ∃ X, (((((((((((((((((w6.setCell ⟨w.heap.size, 2, none⟩ (.slice A6 l'.length c6)).setCell ⟨w.heap.size + 1 + 1, 0, none⟩ (.int .i64 o.kind)).setCell ⟨w.heap.size + 1 + 1, 1, none⟩ (.string o.data)).setCell ⟨w.heap.size + 1 + 1, 2, none⟩ (.slice s.eA s.en s.ec)).setCell ⟨w.heap.size + 1 + 1, 3, none⟩ (.int .u64 o.tree.1)).setCell ⟨w.heap.size + 1 + 1, 4, none⟩ (.int .u64 o.tree.2)).setCell ⟨w.heap.size + 1 + 1, 5, none⟩ (.slice s.pA s.pn s.pc)).setCell ⟨w.heap.size + 1 + 1, 6, none⟩ (.string o.auth)).setCell ⟨w.heap.size + 1 + 1, 7, none⟩ (.int .i64 o.time)).setCell ⟨w.heap.size + 1 + 1, 8, none⟩ (.string o.msg)).setCell ⟨w.heap.size + 1 + 1 + 1, 0, none⟩ (.slice pA pn pc)).setCell ⟨w.heap.size + 1 + 1 + 1, 1, none⟩ (.string pre)).setCell ⟨w.heap.size + 1 + 1 + 1, 2, none⟩ (.slice A6 l'.length c6)).setCell ⟨w.heap.size + 1 + 1 + 1, 3, none⟩ (.slice mA mn mc)).setCell ⟨w.heap.size + 1 + 1 + 1, 4, none⟩ (.slice cA cn cc)).setCell ⟨w.heap.size + 1 + 1 + 1, 5, none⟩ (.slice hA hn hc)).setCell ⟨w.heap.size + 1 + 1 + 1, 6, none⟩ (.bool s0.wr)) = X := ⟨_, rfl⟩
   have hBX : Below w.heap.size w X := by
    rw [<- hX]; exact dD (aP (HW6.out.setCell (p := ⟨w.heap.size, 2, none⟩) ai _) (by omega : w.heap.size <= w.heap.size + 1 + 1) _ _ _ _ _ _ _ _ _) (by omega : w.heap.size <= w.heap.size + 1 + 1 + 1) _ _ _ _ _ _ _
   have hup : ∀ k, W5.heap.size <= k -> X.heap[k]? = w6.heap[k]? := fun k hk => by
    have k1 : k ≠ w.heap.size + 1 + 1 + 1 := by omega
    have k2 : k ≠ w.heap.size + 1 + 1 := by omega
    have k3 : k ≠ w.heap.size := by omega
    rw [<- hX, cK k1, gm k2]; exact Below.heap_setCell _ _ _ k k3
   have hzX : w6.heap.size <= X.heap.size := by rw [<- hX]; simp
   have hOX : ObM X X.heap.size o s := by
    have g1 := gU HOM6.out HK6.out (fun k hk => Below.heap_setCell w6 ⟨w.heap.size, 2, none⟩ (.slice A6 l'.length c6) k hk); have g2 := g1.zero HOK.out (HKo6.out.far (p := ⟨w.heap.size, 2, none⟩) (by show _ ≠ w.heap.size; omega) (.slice A6 l'.length c6)) (fun k hk => gm (b' := w.heap.size + 1 + 1) hk (.int .i64 o.kind) (.string o.data) (.slice s.eA s.en s.ec) (.int .u64 o.tree.1) (.int .u64 o.tree.2) (.slice s.pA s.pn s.pc) (.string o.auth) (.int .i64 o.time) (.string o.msg)); have g3 := gU g2 (iP (HKw6.out.far (p := ⟨w.heap.size, 2, none⟩) (by show _ ≠ w.heap.size; omega) (.slice A6 l'.length c6)) (by omega) _ _ _ _ _ _ _ _ _) (fun k hk => cK (b' := w.heap.size + 1 + 1 + 1) hk (.slice pA pn pc) (.string pre) (.slice A6 l'.length c6) (.slice mA mn mc) (.slice cA cn cc) (.slice hA hn hc) (.bool s0.wr)); rw [hX] at g3; exact g3.more (by omega)
   rw [hX]; clear hX; have hBF : Below w.heap.size w X.drew := hBX.drew; have hup2 : ∀ k, W5.heap.size <= k -> X.drew.heap[k]? = w6.heap[k]? := hup; have hzF : w6.heap.size <= X.drew.heap.size := hzX; refine ⟨o, s, A6, l'.length, c6, mA, mn, mc, true, by rw [HGK.out]; rfl, ?_, .inr ⟨rfl, by rw [HGK.out], HOK.out, hOX.below (Below.refl X.heap.size X).drew ai⟩, hBF, jF (by omega) HWH.out ((HME.out _).2 (.inl rfl)) (L1.s.len aS (by omega)), .inl ⟨rfl, rfl⟩⟩; rw [HGK.out]; refine ⟨l', m, h, iE L1 hBF hup2 hzF HD.out HA.out HME.out HWH.out hlc hcm, L2.bel hBF, L3.bel hBF, L4.bel hBF, fun x => ?_, fun x hx => ?_, hm, hh⟩
   . rw [HME.out, setB_true, hne]
     exact ⟨fun h => h.elim (fun h => .inl (.inl h)) fun h => h.elim (fun h => .inl (.inr h)) .inr, fun h => h.elim (fun h => h.elim .inl fun h => .inr (.inl h)) fun h => .inr (.inr h)⟩
   . rcases (HME.out x).1 hx with rfl | h
     . rw [HGS.out]; simp
     . exact hf x h
  case neg =>
   have hkb : (o.kind != k) = true := by rw [bne_iff_ne]; exact hkk
   have hgk : aW p s0 (d1, d2) k = ({ s0 with ne := aK s0.ne (d1, d2), wr := true }, none) := by unfold aW; rw [HGS.out]; simp only; rw [if_neg hkk]
   have HGK := ah hgk; clear hkk hgk; go_wp2_with fail
   go_region
   go_wp2_with fail; refine bodyPost_ret (qb Tryz.results79 rfl (dW (aQ ((HKo6.out.far (p := ⟨w.heap.size, 2, none⟩) (by show _ ≠ w.heap.size; omega) (.slice A6 l'.length c6)).far (p := ⟨w.heap.size, 6, none⟩) (by show _ ≠ w.heap.size; omega) (.bool true)) _ _ _ _ _ _ _ _ _) (by omega) _ _ _ _ _ _ _).drew rfl (dE (iP ((HKw6.out.far (p := ⟨w.heap.size, 2, none⟩) (by show _ ≠ w.heap.size; omega) (.slice A6 l'.length c6)).far (p := ⟨w.heap.size, 6, none⟩) (by show _ ≠ w.heap.size; omega) (.bool true)) (by omega) _ _ _ _ _ _ _ _ _) _ _ _ _ _ _ _).drew rfl) rfl ?_; obtain ⟨L1, L2, L3, L4, hne, hf, hm, hh⟩ := HL.out; obtain ⟨X, hX⟩ : ∃ X, ((((((((((((((((((w6.setCell ⟨w.heap.size, 2, none⟩ (.slice A6 l'.length c6)).setCell ⟨w.heap.size, 6, none⟩ (.bool true)).setCell ⟨w.heap.size + 1 + 1, 0, none⟩ (.int .i64 o.kind)).setCell ⟨w.heap.size + 1 + 1, 1, none⟩ (.string o.data)).setCell ⟨w.heap.size + 1 + 1, 2, none⟩ (.slice s.eA s.en s.ec)).setCell ⟨w.heap.size + 1 + 1, 3, none⟩ (.int .u64 o.tree.1)).setCell ⟨w.heap.size + 1 + 1, 4, none⟩ (.int .u64 o.tree.2)).setCell ⟨w.heap.size + 1 + 1, 5, none⟩ (.slice s.pA s.pn s.pc)).setCell ⟨w.heap.size + 1 + 1, 6, none⟩ (.string o.auth)).setCell ⟨w.heap.size + 1 + 1, 7, none⟩ (.int .i64 o.time)).setCell ⟨w.heap.size + 1 + 1, 8, none⟩ (.string o.msg)).setCell ⟨w.heap.size + 1 + 1 + 1, 0, none⟩ (.slice pA pn pc)).setCell ⟨w.heap.size + 1 + 1 + 1, 1, none⟩ (.string pre)).setCell ⟨w.heap.size + 1 + 1 + 1, 2, none⟩ (.slice A6 l'.length c6)).setCell ⟨w.heap.size + 1 + 1 + 1, 3, none⟩ (.slice mA mn mc)).setCell ⟨w.heap.size + 1 + 1 + 1, 4, none⟩ (.slice cA cn cc)).setCell ⟨w.heap.size + 1 + 1 + 1, 5, none⟩ (.slice hA hn hc)).setCell ⟨w.heap.size + 1 + 1 + 1, 6, none⟩ (.bool true)) = X := ⟨_, rfl⟩
   have hBX : Below w.heap.size w X := by
    rw [<- hX]; exact dD (aP ((HW6.out.setCell (p := ⟨w.heap.size, 2, none⟩) ai _).setCell (p := ⟨w.heap.size, 6, none⟩) ai _) (by omega : w.heap.size <= w.heap.size + 1 + 1) _ _ _ _ _ _ _ _ _) (by omega : w.heap.size <= w.heap.size + 1 + 1 + 1) _ _ _ _ _ _ _
   have hup : ∀ k, W5.heap.size <= k -> X.heap[k]? = w6.heap[k]? := fun k hk => by
    have k1 : k ≠ w.heap.size + 1 + 1 + 1 := by omega
    have k2 : k ≠ w.heap.size + 1 + 1 := by omega
    have k3 : k ≠ w.heap.size := by omega
    rw [<- hX, cK k1, gm k2]; exact (Below.heap_setCell _ _ _ k k3).trans (Below.heap_setCell _ _ _ k k3)
   have hzX : w6.heap.size <= X.heap.size := by rw [<- hX]; simp
   rw [hX]; clear hX; have hBF : Below w.heap.size w X.drew := hBX.drew; have hup2 : ∀ k, W5.heap.size <= k -> X.drew.heap[k]? = w6.heap[k]? := hup; have hzF : w6.heap.size <= X.drew.heap.size := hzX; refine ⟨o, s, A6, l'.length, c6, mA, mn, mc, false, by rw [HGK.out]; rfl, ?_, .inl ⟨rfl, by rw [HGK.out]⟩, hBF, jF (by omega) HWH.out ((HME.out _).2 (.inl rfl)) (L1.s.len aS (by omega)), .inl ⟨rfl, rfl⟩⟩; rw [HGK.out]; refine ⟨l', m, h, iE L1 hBF hup2 hzF HD.out HA.out HME.out HWH.out hlc hcm, L2.bel hBF, L3.bel hBF, L4.bel hBF, fun x => ?_, fun x hx => ?_, hm, hh⟩
   . rw [HME.out, setB_true, hne]
     exact ⟨fun h => h.elim (fun h => .inl (.inl h)) fun h => h.elim (fun h => .inl (.inr h)) .inr, fun h => h.elim (fun h => h.elim .inl fun h => .inr (.inl h)) fun h => .inr (.inr h)⟩
   . rcases (HME.out x).1 hx with rfl | h
     . rw [HGS.out]; simp
     . exact hf x h
end
structure ji (p : List Itm) (pre : Bytes) (s s' : RkS) (d : Dig) (q : Bytes) : Prop where
 le : LeK s s'
 vis : VisA p pre s' d q
 wh : ∀ x, s'.wh x = true -> s.wh x = true ∨ WhC p s' x
 snd : ∀ (hs : List Dig) (stop : Dig -> Prop) (dep : Int), SndK p hs stop dep pre s -> Plc p hs stop dep pre d q -> SndK p hs stop dep pre s'
structure DirJ (p : List Itm) (pre : Bytes) (d : Dig) (q : Bytes) (o : Ob) (s1 sj : RkS) (j : Nat) : Prop where
 g : ay p d = some o
 k : o.kind = 2
 le : LeK s1 sj
 en : ∀ i e, i < j -> o.ents[i]? = some e -> EntK p pre sj q e
 wh : ∀ x, sj.wh x = true -> s1.wh x = true ∨ WhC p sj x
 snd : ∀ (hs : List Dig) (stop : Dig -> Prop) (dep : Int), SndK p hs stop dep pre s1 -> Plc p hs stop dep pre d q -> SndK p hs stop dep pre sj
section
variable {p : List Itm} {pre q : Bytes} {d : Dig} {o : Ob} {s s1 sj s' : RkS} {j : Nat} {e : Ent}
theorem DirJ.start (h : aW p s d 2 = (s1, some o)) : DirJ p pre d q o s1 s1 0 where
 g := (fG h).1
 k := (fG h).2
 le := LeK.refl _
 en := fun i e hi => by omega
 wh := fun x hx => .inl hx
 snd := fun _ _ _ h _ => h
theorem DirJ.next (h : DirJ p pre d q o s1 sj j) (he : o.ents[j]? = some e) (hl : LeK sj s') (hk : EntK p pre s' q e) (hw : ∀ x, s'.wh x = true -> sj.wh x = true ∨ WhC p s' x)
  (hs : ∀ (hs : List Dig) (stop : Dig -> Prop) (dep : Int), SndK p hs stop dep pre sj -> Plc p hs stop dep pre d q -> SndK p hs stop dep pre s') : DirJ p pre d q o s1 s' (j + 1) where
 g := h.g
 k := h.k
 le := h.le.trans hl
 en := fun i x hi hx => by
  by_cases e1 : i = j
  . subst e1; rw [he] at hx; cases hx; exact hk
  . exact (h.en i x (by omega) hx).mono hl
 wh := fun x hx => (hw x hx).elim (fun h1 => (h.wh x h1).elim .inl fun h2 => .inr (h2.mono hl)) .inr
 snd := fun a b c h1 h2 => hs a b c (h.snd a b c h1 h2) h2
theorem DirJ.dir (h : DirJ p pre d q o s1 sj j) (he : o.ents[j]? = some e) (hd : e.dir = true) (ht : touch pre (q ++ toL e.nm ++ [47])) (Q : ji p pre sj s' e.dg (q ++ toL e.nm ++ [47])) : DirJ p pre d q o s1 s' (j + 1) :=
 h.next he Q.le ⟨fun _ _ => Q.vis, fun h1 => by rw [hd] at h1; cases h1⟩ Q.wh fun a b c h1 h2 => Q.snd a b c h1 (.sub h2 h.g h.k (List.mem_of_getElem? he) hd ht)
theorem DirJ.skip (h : DirJ p pre d q o s1 sj j) (he : o.ents[j]? = some e) (hd : e.dir = true) (ht : ¬ touch pre (q ++ toL e.nm ++ [47])) : DirJ p pre d q o s1 sj (j + 1) :=
 h.next he (LeK.refl _) ⟨fun _ h1 => absurd h1 ht, fun h1 => by rw [hd] at h1; cases h1⟩ (fun x hx => .inl hx) fun _ _ _ h1 _ => h1
theorem DirJ.blob (h : DirJ p pre d q o s1 sj j) (he : o.ents[j]? = some e) (hd : e.dir = false) (ht : pre <+: q ++ toL e.nm) : DirJ p pre d q o s1 (aW p sj e.dg 1).1 (j + 1) :=
 h.next he (mf _ _ _) ⟨fun h1 => (by rw [hd] at h1; cases h1), fun _ _ => ⟨lT _ _ _, fun o' g' k' => lM _ _ _ g' k'⟩⟩ (fun x hx => .inl (by rw [jM] at hx; exact hx))
  fun _ _ _ h1 h2 => h1.get (.blob h2 h.g h.k (List.mem_of_getElem? he) hd ht)
theorem DirJ.pass (h : DirJ p pre d q o s1 sj j) (he : o.ents[j]? = some e) (hd : e.dir = false) (ht : ¬ pre <+: q ++ toL e.nm) : DirJ p pre d q o s1 sj (j + 1) :=
 h.next he (LeK.refl _) ⟨fun h1 => (by rw [hd] at h1; cases h1), fun _ h1 => absurd h1 ht⟩ (fun x hx => .inl hx) fun _ _ _ h1 _ => h1
theorem Dh (hq : pre <+: q) (hw : s.wh d = true) : ji p pre s s d q where
 le := LeK.refl _
 vis := .low hq hw
 wh := fun _ h => .inl h
 snd := fun _ _ _ h _ => h
noncomputable def rdS (pre : Bytes) (s : RkS) (d : Dig) (q : Bytes) : RkS := if pre <+: q then { s with wh := aK s.wh d } else s
theorem pM (h : pre <+: q) : rdS pre s d q = { s with wh := aK s.wh d } := if_pos h
theorem oL (h : ¬ pre <+: q) : rdS pre s d q = s := if_neg h
theorem xh : LeK s (rdS pre s d q) := by
 unfold rdS; split
 . exact ⟨fun _ h => h, fun _ h => setB_true.2 (.inr h), fun h => h⟩
 . exact LeK.refl _
theorem Eu {hs : List Dig} {stop : Dig -> Prop} {dep : Int} (h : SndK p hs stop dep pre s) : SndK p hs stop dep pre (rdS pre s d q) := by
 unfold rdS; split
 . exact ⟨h.ne, h.wr⟩
 . exact h
theorem CO {r : Option Ob} (hg : aW p (rdS pre s d q) d 2 = (s1, r)) (h : (r = none /\ s' = s1) ∨ ∃ o, r = some o /\ DirJ p pre d q o s1 s' o.ents.length) : ji p pre s s' d q := by
 have hle1 : LeK (rdS pre s d q) s1 := by have := mf (p := p) (rdS pre s d q) d 2; rw [hg] at this; exact this
 have hle2 : LeK s1 s' := by
  rcases h with ⟨_, rfl⟩ | ⟨o, _, h⟩
  . exact LeK.refl _
  . exact h.le
 have he : ∀ o, r = some o -> ∀ e ∈ o.ents, EntK p pre s' q e := fun o ho e he => by
  rcases h with ⟨h1, _⟩ | ⟨o', h1, h⟩
  . rw [h1] at ho; cases ho
  . rw [h1] at ho; injection ho with ho; subst ho
    obtain ⟨i, hi⟩ := List.mem_iff_getElem?.1 he; have hi2 : i < o'.ents.length := by
     rcases Nat.lt_or_ge i o'.ents.length with h2 | h2
     . exact h2
     . rw [List.getElem?_eq_none h2] at hi; cases hi
    exact h.en i e hi2 hi
 have hw : ∀ x, s'.wh x = true -> s1.wh x = true ∨ WhC p s' x := fun x hx => by
  rcases h with ⟨_, rfl⟩ | ⟨o, _, h⟩
  . exact .inl hx
  . exact h.wh x hx
 have hwh1 : s1.wh = (rdS pre s d q).wh := by have := jM (p := p) (rdS pre s d q) d 2; rw [hg] at this; exact this
 have hsnd : ∀ (hs : List Dig) (stop : Dig -> Prop) (dep : Int), SndK p hs stop dep pre s -> Plc p hs stop dep pre d q -> SndK p hs stop dep pre s' := fun a b c h1 h2 => by
  have h3 := (Eu (d := d) (q := q) h1).get (.dir h2); rw [hg] at h3; rcases h with ⟨_, rfl⟩ | ⟨o, _, h⟩
  . exact h3
  . exact h.snd a b c h3 h2
 by_cases hq : pre <+: q
 . rw [pM hq] at hg
   obtain ⟨h1, h2⟩ := Er hq hg hle2 he hw; exact ⟨(xh (pre := pre) (d := d) (q := q)).trans (hle1.trans hle2), h1, h2, hsnd⟩
 . rw [oL hq] at hg hwh1
   refine ⟨(xh (pre := pre) (d := d) (q := q)).trans (hle1.trans hle2), Ct hq hg hle2 he, fun x hx => ?_, hsnd⟩; rw [<- hwh1]; exact hw x hx
/-! ### how deep -/
noncomputable def rdM (U : List Dig) (pre : Bytes) (s : RkS) (q : Bytes) : Nat := (if pre <+: q then 0 else pre.length + 1 - q.length) + cu U s.wh
theorem tT {U : List Dig} (h : LeK s s') : cu U s'.wh <= cu U s.wh := by
 unfold cu; refine qd fun x hx => ?_; rw [Bool.not_eq_true'] at hx ⊢; cases h1 : s.wh x with
 | false => rfl
 | true => rw [h.wh x h1] at hx; cases hx
theorem Du {U : List Dig} {nm : Bytes} (hd : d ∈ U) (hw : pre <+: q -> s.wh d = false) (hl : LeK (rdS pre s d q) s') (ht : touch pre (q ++ nm ++ [47])) : rdM U pre s' (q ++ nm ++ [47]) + 1 <= rdM U pre s q := by
 unfold rdM; by_cases hq : pre <+: q
 . rw [if_pos hq, if_pos (jN (jN hq))]
   rw [pM hq] at hl; have h1 := tq (U := U) hd (hw hq); have h2 := tT (U := U) hl; simp only at h2; omega
 . rw [if_neg hq]
   rw [oL hq] at hl; have h2 := tT (U := U) hl; have hqp : q <+: pre := by
    rcases ht with h | h
    . rcases List.prefix_or_prefix_of_prefix h (show q <+: q ++ nm ++ [47] from by rw [List.append_assoc]; exact List.prefix_append _ _) with h3 | h3
      . exact absurd h3 hq
      . exact h3
    . exact (show q <+: q ++ nm ++ [47] from by rw [List.append_assoc]; exact List.prefix_append _ _).trans h
   have h3 := hqp.length_le; have h4 : (q ++ nm ++ [47]).length = q.length + nm.length + 1 := by simp [Nat.add_assoc]
   by_cases h5 : pre <+: q ++ nm ++ [47]
   . rw [if_pos h5]; omega
   . rw [if_neg h5]
     have h6 : (q ++ nm ++ [47]).length <= pre.length := by
      rcases ht with h | h
      . exact absurd h h5
      . exact h.length_le
     omega
theorem xe {U : List Dig} (hU : U.length <= 9000) (hp : pre.length <= 100) : rdM U pre s q <= 9101 := by
 have := lH U s.wh; unfold rdM; split <;> omega
end
end Go.Proofs.YtlcecobipgmafaaGreatDoor
