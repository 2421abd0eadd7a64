/-
  Lemmas of the card.
-/
import Derived.Test.YtlcecobipgmafaaGreatDoorNCNd12
import Derived.Test.YtlcecobipgmafaaGreatDoorNCNd3
import Derived.Test.YtlcecobipgmafaaGreatDoorNCNd6
set_option maxRecDepth 100000
set_option maxHeartbeats 8000000
namespace Go.Proofs.YtlcecobipgmafaaGreatDoor
open Go.RowKit
theorem eB (a b : Bytes) : ofL a ++ ofL b = ofL (a ++ b) := by
 apply gW
 show (ofL a ++ ofL b).data.toList = a ++ b; rw [ByteArray.data_append, Array.toList_append]; rfl
def gG (s : ByteArray) (w : World) (e : Ending) (w' : World) : Prop := e = .returned (.string s) /\ Below w.heap.size w w'
theorem gp (n : Nat) (hn : n <= 1099511627776) (w : World) : Calls Tryz.prog 129 #[.int .i64 n] w (gG (ofL (aj n)) w) := by
 have HP := ah (y9 n hn w); generalize ofL (aj n) = s at *
 go_enter Tryz.func129, Tryz.ntmps129
 go_wp2_with (first | (go_at_call 147; refine HP.out.mono ?_; rintro e w1 ⟨rfl, hb⟩))
 go_ret
 exact ⟨rfl, hb⟩
theorem jC (t : ByteArray) (ht : t.size <= 65536) (w : World) : Calls Tryz.prog 130 #[.string t] w (gG (ofL (au (toL t))) w) := by
 have HP := ah (yX t ht w); generalize ofL (au (toL t)) = s at *
 go_enter Tryz.func130, Tryz.ntmps130
 go_wp2_with (first | (go_at_call 148; refine HP.out.mono ?_; rintro e w1 ⟨rfl, hb⟩))
 go_ret
 exact ⟨rfl, hb⟩
theorem lG {t : ByteArray} (h : t.size <= 65536) : (au (toL t)).length <= 70000 := by
 have h1 := bO 5 t.size (by omega); have h2 := bu t; unfold au; rw [List.length_append, <- h2]; omega
theorem sD (o : Ob) (s : Osl) (B : Nat) (w : World) (hm : ObM w B o s) (hB : B <= w.heap.size) (ho : OkF o) :
  Calls Tryz.prog 103 #[obV o s] w (gG (ofL (aB o)) w) := by
 have hel := hm.elen; have hpl := hm.plen; have HE := ah hm.e; have HP := ah hm.p; obtain ⟨W0, hW⟩ : ∃ W, w.alloc (.cells (obC o s) 75) = W := ⟨_, rfl⟩
 have HB0 : Hid (Below w.heap.size w W0) := by rw [<- hW]; exact (Below.refl _ w).alloc ai _
 have HK0 : Hid (Bk W0 w.heap.size 75 (obC o s)) := by rw [<- hW]; exact Bk.new w _ _
 have zk : w.heap.size < W0.heap.size := HK0.out.lt; cases ho with
 | blob k e c d =>
   have HENC : Hid (aB o = aj o.kind.toNat ++ au (toL o.data)) := by show _ = _; unfold aB bW; rw [if_neg (by omega), if_neg (by omega)]
   obtain ⟨kind, data, ents, ⟨t1, t2⟩, pars, auth, time, msg⟩ := o; obtain ⟨eA, en, ec, pA, pn, pc⟩ := s; simp only at k d HENC; simp only [obV, obC] at hW HK0 ⊢; clear hm e c HE HP hel hpl; rcases k with rfl | rfl
   . obtain ⟨c0, c1, c2, c3, c4, c5, c6, c7, c8⟩ := HK0.out.nine
     have HN1 := ah (gp 1 (by omega) W0); have hlk : (aj 1).length = 1 := by rw [bM (by omega)]; rfl
     go_enter Tryz.func103, Tryz.ntmps103
     go_wp2_with (first | (go_at_call 129; refine HN1.out.mono ?_; rintro e w1 ⟨rfl, hb⟩; refine aI ?_))
     refine aC ?_; have HB1 : Hid (Below w.heap.size w w1) := HB0.out.trans (hb.mono HB0.out.size); have HK1 := ah (HK0.out.below hb zk); have z1 : w.heap.size < w1.heap.size := HK1.out.lt; obtain ⟨s1, hs1⟩ : ∃ s1, ofL (aj 1) = s1 := ⟨_, rfl⟩
     rw [hs1]; have HS1 : Hid (s1 = ofL (aj 1)) := hs1.symm; have hz1 : s1.size <= 1 := by rw [<- hs1, bN]; omega
     clear hb hW c0 c1 c2 c3 c4 c5 c6 c7 c8 HN1 hs1; obtain ⟨c0, c1, c2, c3, c4, c5, c6, c7, c8⟩ := HK1.out.nine; have HT := ah (jC data d w1); have hl2 := lG d; obtain ⟨s2, hs2⟩ : ∃ s2, ofL (au (toL data)) = s2 := ⟨_, rfl⟩
     rw [hs2] at HT; have HS2 : Hid (s2 = ofL (au (toL data))) := hs2.symm; have hz2 : s2.size <= 70000 := by rw [<- hs2, bN]; exact hl2
     have hsz : ¬ (9223372036854775807 < s1.size + s2.size) := by omega
     clear hs2 d
     go_wp2_with (first | (go_at_call 130; refine HT.out.mono ?_; rintro e w2 ⟨rfl, hb⟩))
     go_ret
     exact ⟨by rw [HENC.out, HS1.out, HS2.out, eB]; rfl, HB1.out.trans (hb.mono HB1.out.size)⟩
   . obtain ⟨c0, c1, c2, c3, c4, c5, c6, c7, c8⟩ := HK0.out.nine
     have HN1 := ah (gp 4 (by omega) W0); have hlk : (aj 4).length = 1 := by rw [bM (by omega)]; rfl
     go_enter Tryz.func103, Tryz.ntmps103
     go_wp2_with (first | (go_at_call 129; refine HN1.out.mono ?_; rintro e w1 ⟨rfl, hb⟩; refine aI ?_))
     refine aC ?_; have HB1 : Hid (Below w.heap.size w w1) := HB0.out.trans (hb.mono HB0.out.size); have HK1 := ah (HK0.out.below hb zk); have z1 : w.heap.size < w1.heap.size := HK1.out.lt; obtain ⟨s1, hs1⟩ : ∃ s1, ofL (aj 4) = s1 := ⟨_, rfl⟩
     rw [hs1]; have HS1 : Hid (s1 = ofL (aj 4)) := hs1.symm; have hz1 : s1.size <= 1 := by rw [<- hs1, bN]; omega
     clear hb hW c0 c1 c2 c3 c4 c5 c6 c7 c8 HN1 hs1; obtain ⟨c0, c1, c2, c3, c4, c5, c6, c7, c8⟩ := HK1.out.nine; have HT := ah (jC data d w1); have hl2 := lG d; obtain ⟨s2, hs2⟩ : ∃ s2, ofL (au (toL data)) = s2 := ⟨_, rfl⟩
     rw [hs2] at HT; have HS2 : Hid (s2 = ofL (au (toL data))) := hs2.symm; have hz2 : s2.size <= 70000 := by rw [<- hs2, bN]; exact hl2
     have hsz : ¬ (9223372036854775807 < s1.size + s2.size) := by omega
     clear hs2 d
     go_wp2_with (first | (go_at_call 130; refine HT.out.mono ?_; rintro e w2 ⟨rfl, hb⟩))
     go_ret
     exact ⟨by rw [HENC.out, HS1.out, HS2.out, eB]; rfl, HB1.out.trans (hb.mono HB1.out.size)⟩
 | tree k d c e =>
   have HENC : Hid (aB o = aj 2 ++ (aj o.ents.length ++ o.ents.flatMap aH)) := by show _ = _; unfold aB bW; rw [if_pos k, k]; rfl
   obtain ⟨kind, data, ents, ⟨t1, t2⟩, pars, auth, time, msg⟩ := o; obtain ⟨eA, n, ec, pA, pn, pc⟩ := s; simp only at k d HENC hel HE; subst k d; simp only [obV, obC] at hW HK0 ⊢; have hn : n <= 200 := by rw [<- hel]; exact e.few
   have HOE := ah e.all; have HEL := ah hel; rw [hel] at HENC; clear hm e c HP hpl hel; obtain ⟨c0, c1, c2, c3, c4, c5, c6, c7, c8⟩ := HK0.out.nine; have HN1 := ah (gp 2 (by omega) W0); have hlk : (aj 2).length = 1 := by rw [bM (by omega)]; rfl
   go_enter Tryz.func103, Tryz.ntmps103
   go_wp2_with (first | (go_at_call 129; refine HN1.out.mono ?_; rintro e w1 ⟨rfl, hb⟩; refine aI ?_))
   refine aC ?_; have HB1 : Hid (Below w.heap.size w w1) := HB0.out.trans (hb.mono HB0.out.size); have HK1 := ah (HK0.out.below hb zk); have z1 : w.heap.size < w1.heap.size := HK1.out.lt; obtain ⟨s1, hs1⟩ : ∃ s1, ofL (aj 2) = s1 := ⟨_, rfl⟩
   rw [hs1]; have HS1 : Hid (s1 = ofL (aj 2)) := hs1.symm; have hz1 : s1.size <= 1 := by rw [<- hs1, bN]; omega
   clear hb hW c0 c1 c2 c3 c4 c5 c6 c7 c8 HN1 hs1; obtain ⟨c0, c1, c2, c3, c4, c5, c6, c7, c8⟩ := HK1.out.nine; have HT := ah (gp n (by omega) w1); have hl2 := bO 5 n (by omega); obtain ⟨s2, hs2⟩ : ∃ s2, ofL (aj n) = s2 := ⟨_, rfl⟩
   rw [hs2] at HT; have HS2 : Hid (s2 = ofL (aj n)) := hs2.symm; have hz2 : s2.size <= 6 := by rw [<- hs2, bN]; exact hl2
   have hsz : ¬ (9223372036854775807 < s1.size + s2.size) := by omega
   clear hs2
   go_wp2_with (first | (go_at_call 129; refine HT.out.mono ?_; rintro e w2 ⟨rfl, hb⟩; refine aI ?_))
   refine aC ?_; have HB2 : Hid (Below w.heap.size w w2) := HB1.out.trans (hb.mono HB1.out.size); have HK2 := ah (HK1.out.below hb z1); have z2 : w.heap.size < w2.heap.size := HK2.out.lt; have HSS : Hid (s1 ++ s2 = ofL (aj 2 ++ aj n ++ (ents.take 0).flatMap aH)) := by show _ = _; rw [HS1.out, HS2.out, eB]; simp
   clear hb c0 c1 c2 c3 c4 c5 c6 c7 c8 HT; go_wp2_with fail
   go_loopw [3, 4] (fun a i wr => ∃ (k : Nat) (s0 : ByteArray), a = .string s0 /\ i = .int .i64 (k : Int) /\ k <= n /\ Hid (s0 = ofL (aj 2 ++ aj n ++ (ents.take k).flatMap aH)) /\ s0.size <= 10 + 100 * k /\ Hid (Below w2.heap.size w2 wr)) (fun _ i _ => n - (intOf i).toNat)
   case atStart => exact ⟨0, s1 ++ s2, rfl, rfl, Nat.zero_le _, HSS.out, by rw [ByteArray.size_append]; omega, Below.refl _ _⟩
   case round =>
    obtain ⟨k, s0, rfl, rfl, hk, hS, hsz0, hbw⟩ := hrel; have HBw : Hid (Below w.heap.size w wr) := HB2.out.trans (hbw.out.mono HB2.out.size); obtain ⟨c0, c1, c2, c3, c4, c5, c6, c7, c8⟩ := (HK2.out.below hbw.out z2).nine; have zr := hbw.out.size; by_cases hlt : k < n
    . have hlz : (k : Int) < (n : Int) := by omega
      have hk0 : ¬ (k : Int) < 0 := by omega
      obtain ⟨bb, off, en, rfl, hbB, hen, y0, y1, y2, y3⟩ := (HE.out.below HBw.out hB).en hlt; have hoe := HOE.out en (List.mem_of_getElem? hen); have hns := dw hoe.nm; have hwd := hoe.dg; have HEX : Hid ((ents.take (k + 1)).flatMap aH = (ents.take k).flatMap aH ++ aH en) := kv hen; have hbw2 : bb < wr.heap.size := by have := HBw.out.size; omega
      obtain ⟨nm, dir, d1, d2⟩ := en; simp only at y0 y1 y2 y3 hns HEX hwd; obtain ⟨dn, hdn⟩ : ∃ dn : Nat, (if dir = true then 1 else 0 : Nat) = dn := ⟨_, rfl⟩
      have hdn1 : dn <= 1 := by rw [<- hdn]; split <;> omega
      have HDN := ah hdn; obtain ⟨x1, hx1⟩ : ∃ x, ofL (au (toL nm)) = x := ⟨_, rfl⟩
      obtain ⟨x2, hx2⟩ : ∃ x, ofL (aj dn) = x := ⟨_, rfl⟩
      obtain ⟨x3, hx3⟩ : ∃ x, ofL (ak (d1, d2)) = x := ⟨_, rfl⟩
      have hz1 : x1.size <= 70 := by
       have h1 := bO 5 nm.size (by omega); have h2 := bu nm; rw [<- hx1, bN]; unfold au; rw [List.length_append, <- h2]; omega
      have hz2 : x2.size <= 6 := by rw [<- hx2, bN]; have := bO 5 dn (by omega); omega
      have hz3 : x3.size <= 16 := by rw [<- hx3, bN, dU]; omega
      have HX1 := ah (fun W => jC nm (by omega) W); have HX2 := ah (fun W => gp dn (by omega) W); have HX3 := ah (fun W => nk (d1, d2) hwd W); unfold gG at HX1 HX2; unfold az at HX3; rw [hx1] at HX1; rw [hx2] at HX2; rw [hx3] at HX3; have HEE : Hid (s0 ++ x1 ++ x2 ++ x3 = ofL (aj 2 ++ aj n ++ (ents.take (k + 1)).flatMap aH)) := by
       show _ = _; have he : aH ⟨nm, dir, (d1, d2)⟩ = au (toL nm) ++ (aj dn ++ ak (d1, d2)) := by rw [<- hdn]; rfl
       rw [HEX.out, he, hS.out, <- hx1, <- hx2, <- hx3, eB, eB, eB]; simp only [List.append_assoc]
      have hq1 : ¬ (9223372036854775807 < s0.size + x1.size) := by omega
      have hq2 : s0.size + x1.size + x2.size <= 9223372036854775807 := by omega
      have hq3 : s0.size + x1.size + x2.size + x3.size <= 9223372036854775807 := by omega
      have hq4 : (s0 ++ x1 ++ x2 ++ x3).size <= 10 + 100 * (k + 1) := by rw [ByteArray.size_append, ByteArray.size_append, ByteArray.size_append]; omega
      have HQ4 := ah hq4; clear hx1 hx2 hx3 hen hoe hwd hq4
      go_upto_if 32 with fail
      go_cut [5] from 32 to 32 (fun q wx => q = .int .i64 (dn : Int) /\ wx = wr)
      case first =>
       cases dir with
       | true =>
         obtain rfl : 1 = dn := by simpa using hdn
         go_wp2_with fail
         go_meet
         exact ⟨rfl, rfl⟩
       | false =>
         obtain rfl : 0 = dn := by simpa using hdn
         go_wp2_with fail
         go_meet
         exact ⟨rfl, rfl⟩
      case rest =>
       obtain ⟨rfl, rfl⟩ := hcut; go_wp2_with fail; refine eu 20 (33 :: 34 :: 35 :: 36 :: 37 :: 38 :: 39 :: 40 :: 41 :: 42 :: 43 :: 44 :: 45 :: 46 :: 47 :: 48 :: 49 :: 50 :: 51 :: 52 :: []) (by kernel_rfl) (by kernel_rfl) (by kernel_rfl) (fun W => Below wc.heap.size wc W) (fun W W' => Below W.heap.size W W')
        (gN ((.string s0) :: (.pointer (some ⟨w.heap.size, 2, none⟩)) :: (.slice (some ⟨bb, off, none⟩) n ec) :: (.int .i64 (k : Int)) :: (.pointer (some ⟨bb, off + k * 4, none⟩)) :: (.pointer (some ⟨bb, off + k * 4, none⟩)) :: (.string nm) :: (.string x1) :: (.string (s0 ++ x1)) :: (.int .i64 (dn : Int)) :: (.string x2) :: (.string (s0 ++ x1 ++ x2)) :: (.pointer (some ⟨w.heap.size, 2, none⟩)) :: (.slice (some ⟨bb, off, none⟩) n ec) :: (.int .i64 (k : Int)) :: (.pointer (some ⟨bb, off + k * 4, none⟩)) :: (.pointer (some ⟨bb, off + k * 4 + 2, none⟩)) :: (.agg #[.int .u64 d1, .int .u64 d2]) :: (.string x3) :: (.string (s0 ++ x1 ++ x2 ++ x3)) :: [])) (fun W W' h1 h2 => h1.trans (h2.mono h1.size)) (fun i v W W' h _ => h) (Below.refl _ _).drew ?stepE ?tailE
       case stepE =>
        intro i o vs W hi ho hv hR hphi; obtain ⟨v0, v1, v2, v3, v4, v5, v6, v7, v8, v9, v10, v11, v12, v13, v14, v15, v16, v17, v18, v19, rfl⟩ := yj hv; simp only [List.zip, List.zipWith, aG, Act.put, List.setIfInBounds_toArray, List.set]; have hWz := hR.size; have g2 := (hR.cell (p := ⟨w.heap.size, 2, none⟩) (by show w.heap.size < _; omega)).trans c2; have q0 := (hR.cell (p := ⟨bb, off + k * 4, none⟩) (by show bb < _; omega)).trans y0; have q1 := (hR.cell (p := ⟨bb, off + k * 4 + 1, none⟩) (by show bb < _; omega)).trans y1; have q2 := (hR.cell (p := ⟨bb, off + k * 4 + 2, none⟩) (by show bb < _; omega)).trans y2; have q3 := (hR.cell (p := ⟨bb, off + k * 4 + 3, none⟩) (by show bb < _; omega)).trans y3
        match i, hi, ho with
        | 0, _, rfl =>
          exact .inl ⟨rfl, ax (v := .string s0) (w' := W) (by go_simp) ⟨Below.refl _ _, fun _ => aA⟩⟩
        | 1, _, rfl =>
          exact .inl ⟨rfl, ax (v := .pointer (some ⟨w.heap.size, 2, none⟩)) (w' := W) (by go_simp) ⟨Below.refl _ _, fun _ => aA⟩⟩
        | 2, _, rfl =>
          have e1 : v1 = _ := hphi ⟨1, .data⟩ (by simp) rfl v1 rfl _ rfl; subst e1; exact .inl ⟨rfl, ax (v := .slice (some ⟨bb, off, none⟩) n ec) (w' := W) (by go_simp) ⟨Below.refl _ _, fun _ => aA⟩⟩
        | 3, _, rfl =>
          exact .inl ⟨rfl, ax (v := .int .i64 (k : Int)) (w' := W) (by go_simp) ⟨Below.refl _ _, fun _ => aA⟩⟩
        | 4, _, rfl =>
          have e2 : v2 = _ := hphi ⟨2, .data⟩ (by simp) rfl v2 rfl _ rfl; have e3 : v3 = _ := hphi ⟨3, .data⟩ (by simp) rfl v3 rfl _ rfl; subst e2 e3; exact .inl ⟨rfl, ax (v := .pointer (some ⟨bb, off + k * 4, none⟩)) (w' := W) (by go_simp) ⟨Below.refl _ _, fun _ => aA⟩⟩
        | 5, _, rfl =>
          have e4 : v4 = _ := hphi ⟨4, .data⟩ (by simp) rfl v4 rfl _ rfl; subst e4; exact .inl ⟨rfl, ax (v := .pointer (some ⟨bb, off + k * 4, none⟩)) (w' := W) (by go_simp) ⟨Below.refl _ _, fun _ => aA⟩⟩
        | 6, _, rfl =>
          have e5 : v5 = _ := hphi ⟨5, .data⟩ (by simp) rfl v5 rfl _ rfl; subst e5; exact .inl ⟨rfl, ax (v := .string nm) (w' := W) (by go_simp) ⟨Below.refl _ _, fun _ => aA⟩⟩
        | 7, _, rfl =>
          have e6 : v6 = _ := hphi ⟨6, .data⟩ (by simp) rfl v6 rfl _ rfl; subst e6; refine .inl ⟨rfl, bU (f := 130) (args := #[.string nm]) (by go_simp) ((HX1.out W).mono ?_)⟩; rintro e W' ⟨rfl, hb2⟩; exact ⟨_, rfl, hb2, fun _ => aA⟩
        | 8, _, rfl =>
          have e0 : v0 = _ := hphi ⟨0, .data⟩ (by simp) rfl v0 rfl _ rfl; have e7 : v7 = _ := hphi ⟨7, .data⟩ (by simp) rfl v7 rfl _ rfl; subst e0 e7; exact .inl ⟨rfl, ax (v := .string (s0 ++ x1)) (w' := W) (by go_simp) ⟨Below.refl _ _, fun _ => aA⟩⟩
        | 9, _, rfl =>
          exact .inl ⟨rfl, ax (v := .int .i64 (dn : Int)) (w' := W) (by go_simp) ⟨Below.refl _ _, fun _ => aA⟩⟩
        | 10, _, rfl =>
          have e9 : v9 = _ := hphi ⟨9, .data⟩ (by simp) rfl v9 rfl _ rfl; subst e9; refine .inl ⟨rfl, bU (f := 129) (args := #[.int .i64 (dn : Int)]) (by go_simp) ((HX2.out W).mono ?_)⟩; rintro e W' ⟨rfl, hb2⟩; exact ⟨_, rfl, hb2, fun _ => aA⟩
        | 11, _, rfl =>
          have e8 : v8 = _ := hphi ⟨8, .data⟩ (by simp) rfl v8 rfl _ rfl; have e10 : v10 = _ := hphi ⟨10, .data⟩ (by simp) rfl v10 rfl _ rfl; subst e8 e10; exact .inl ⟨rfl, ax (v := .string (s0 ++ x1 ++ x2)) (w' := W) (by go_simp) ⟨Below.refl _ _, fun _ => aA⟩⟩
        | 12, _, rfl =>
          exact .inl ⟨rfl, ax (v := .pointer (some ⟨w.heap.size, 2, none⟩)) (w' := W) (by go_simp) ⟨Below.refl _ _, fun _ => aA⟩⟩
        | 13, _, rfl =>
          have e12 : v12 = _ := hphi ⟨12, .data⟩ (by simp) rfl v12 rfl _ rfl; subst e12; exact .inl ⟨rfl, ax (v := .slice (some ⟨bb, off, none⟩) n ec) (w' := W) (by go_simp) ⟨Below.refl _ _, fun _ => aA⟩⟩
        | 14, _, rfl =>
          exact .inl ⟨rfl, ax (v := .int .i64 (k : Int)) (w' := W) (by go_simp) ⟨Below.refl _ _, fun _ => aA⟩⟩
        | 15, _, rfl =>
          have e13 : v13 = _ := hphi ⟨13, .data⟩ (by simp) rfl v13 rfl _ rfl; have e14 : v14 = _ := hphi ⟨14, .data⟩ (by simp) rfl v14 rfl _ rfl; subst e13 e14; exact .inl ⟨rfl, ax (v := .pointer (some ⟨bb, off + k * 4, none⟩)) (w' := W) (by go_simp) ⟨Below.refl _ _, fun _ => aA⟩⟩
        | 16, _, rfl =>
          have e15 : v15 = _ := hphi ⟨15, .data⟩ (by simp) rfl v15 rfl _ rfl; subst e15; exact .inl ⟨rfl, ax (v := .pointer (some ⟨bb, off + k * 4 + 2, none⟩)) (w' := W) (by go_simp) ⟨Below.refl _ _, fun _ => aA⟩⟩
        | 17, _, rfl =>
          have e16 : v16 = _ := hphi ⟨16, .data⟩ (by simp) rfl v16 rfl _ rfl; subst e16; exact .inl ⟨rfl, ax (v := .agg #[.int .u64 d1, .int .u64 d2]) (w' := W) (by go_simp) ⟨Below.refl _ _, fun _ => aA⟩⟩
        | 18, _, rfl =>
          have e17 : v17 = _ := hphi ⟨17, .data⟩ (by simp) rfl v17 rfl _ rfl; subst e17; refine .inl ⟨rfl, bU (f := 131) (args := #[.agg #[.int .u64 d1, .int .u64 d2]]) (by go_simp) ((HX3.out W).mono ?_)⟩; rintro e W' ⟨rfl, hb2⟩; exact ⟨_, rfl, hb2, fun _ => aA⟩
        | 19, _, rfl =>
          have e11 : v11 = _ := hphi ⟨11, .data⟩ (by simp) rfl v11 rfl _ rfl; have e18 : v18 = _ := hphi ⟨18, .data⟩ (by simp) rfl v18 rfl _ rfl; subst e11 e18; exact .inl ⟨rfl, ax (v := .string (s0 ++ x1 ++ x2 ++ x3)) (w' := W) (by go_simp) ⟨Below.refl _ _, fun _ => aA⟩⟩
        | i + 20, hi, _ => exact absurd hi (by omega)
       case tailE =>
        intro vs W hv hR hphi; obtain ⟨v0, v1, v2, v3, v4, v5, v6, v7, v8, v9, v10, v11, v12, v13, v14, v15, v16, v17, v18, v19, rfl⟩ := yj hv; simp only [List.zip, List.zipWith, aG, Act.put, List.setIfInBounds_toArray, List.set, List.drop]; have e0 : v0 = _ := hphi 0 v0 rfl _ rfl; have e1 : v1 = _ := hphi 1 v1 rfl _ rfl; have e2 : v2 = _ := hphi 2 v2 rfl _ rfl; have e3 : v3 = _ := hphi 3 v3 rfl _ rfl; have e4 : v4 = _ := hphi 4 v4 rfl _ rfl; have e5 : v5 = _ := hphi 5 v5 rfl _ rfl; have e6 : v6 = _ := hphi 6 v6 rfl _ rfl; have e7 : v7 = _ := hphi 7 v7 rfl _ rfl; have e8 : v8 = _ := hphi 8 v8 rfl _ rfl; have e9 : v9 = _ := hphi 9 v9 rfl _ rfl; have e10 : v10 = _ := hphi 10 v10 rfl _ rfl; have e11 : v11 = _ := hphi 11 v11 rfl _ rfl; have e12 : v12 = _ := hphi 12 v12 rfl _ rfl; have e13 : v13 = _ := hphi 13 v13 rfl _ rfl; have e14 : v14 = _ := hphi 14 v14 rfl _ rfl; have e15 : v15 = _ := hphi 15 v15 rfl _ rfl; have e16 : v16 = _ := hphi 16 v16 rfl _ rfl; have e17 : v17 = _ := hphi 17 v17 rfl _ rfl; have e18 : v18 = _ := hphi 18 v18 rfl _ rfl; have e19 : v19 = _ := hphi 19 v19 rfl _ rfl; subst e0 e1 e2 e3 e4 e5 e6 e7 e8 e9 e10 e11 e12 e13 e14 e15 e16 e17 e18 e19; clear hphi hv; have HBz : Hid (Below w2.heap.size w2 W) := hbw.out.trans (hR.mono zr); clear hR; go_wp2_with fail; go_roundw
        case rel => exact ⟨k + 1, _, rfl, by go_num, hlt, HEE.out, HQ4.out, HBz.out⟩
        case measure => simp [intOf]; omega
    . have hlz : ¬ (k : Int) < (n : Int) := by omega
      have HSE : Hid (s0 = ofL (aj 2 ++ aj n ++ ents.flatMap aH)) := by
       have := hS.out; rw [List.take_of_length_le (by rw [HEL.out]; omega)] at this; exact this
      go_wp2_with fail; go_ret
      exact ⟨by rw [HENC.out, <- List.append_assoc, <- HSE.out]; rfl, HBw.out⟩
 | commit k d e c =>
   have HENC : Hid (aB o = aj 3 ++ (ak o.tree ++ (aj o.pars.length ++ (o.pars.flatMap ak ++ (au (toL o.auth) ++ (aj o.time.toNat ++ au (toL o.msg))))))) := by show _ = _; unfold aB bW; rw [if_neg (by omega), if_pos k, k]; rfl
   obtain ⟨kind, data, ents, ⟨t1, t2⟩, pars, auth, time, msg⟩ := o; obtain ⟨eA, en, ec, pA, n, pc⟩ := s; simp only at k d e HENC hpl HP; subst k d e; simp only [obV, obC] at hW HK0 ⊢; have hn : n <= 8 := by rw [<- hpl]; exact c.pars.few
   have hwt : WfD (t1, t2) := c.wf; have HOP := ah c.pars.wf; have HPL := ah hpl; have hau : auth.size <= 24 := dw c.auth; have hmg : msg.size <= 200 := c.msg; have ht0 : 0 <= time := c.t0; have ht1 : time <= 1099511627776 := c.t1; obtain ⟨tn, rfl⟩ := Int.eq_ofNat_of_zero_le ht0; have htn : tn <= 1099511627776 := by omega
   simp only [Int.toNat_natCast] at HENC; rw [hpl] at HENC; clear hm c HE hel hpl ht0 ht1; obtain ⟨c0, c1, c2, c3, c4, c5, c6, c7, c8⟩ := HK0.out.nine; have HN1 := ah (gp 3 (by omega) W0); have hlk : (aj 3).length = 1 := by rw [bM (by omega)]; rfl
   go_enter Tryz.func103, Tryz.ntmps103
   go_wp2_with (first | (go_at_call 129; refine HN1.out.mono ?_; rintro e w1 ⟨rfl, hb⟩; refine aI ?_))
   refine aC ?_; have HB1 : Hid (Below w.heap.size w w1) := HB0.out.trans (hb.mono HB0.out.size); have HK1 := ah (HK0.out.below hb zk); have z1 : w.heap.size < w1.heap.size := HK1.out.lt; obtain ⟨s1, hs1⟩ : ∃ s1, ofL (aj 3) = s1 := ⟨_, rfl⟩
   rw [hs1]; have HS1 : Hid (s1 = ofL (aj 3)) := hs1.symm; have hz1 : s1.size <= 1 := by rw [<- hs1, bN]; omega
   clear hb hW c0 c1 c2 c3 c4 c5 c6 c7 c8 HN1 hs1; obtain ⟨c0, c1, c2, c3, c4, c5, c6, c7, c8⟩ := HK1.out.nine; obtain ⟨x1, hx1⟩ : ∃ x, ofL (ak (t1, t2)) = x := ⟨_, rfl⟩
   obtain ⟨x2, hx2⟩ : ∃ x, ofL (aj n) = x := ⟨_, rfl⟩
   have hy1 : x1.size <= 16 := by rw [<- hx1, bN, dU]; omega
   have hy2 : x2.size <= 6 := by rw [<- hx2, bN]; exact bO 5 n (by omega)
   have HX1 := ah (fun W => nk (t1, t2) hwt W); have HX2 := ah (fun W => gp n (by omega) W); unfold gG at HX2; unfold az at HX1; rw [hx1] at HX1; rw [hx2] at HX2; have HSS : Hid (s1 ++ x1 ++ x2 = ofL (aj 3 ++ ak (t1, t2) ++ aj n ++ (pars.take 0).flatMap ak)) := by show _ = _; rw [HS1.out, <- hx1, <- hx2, eB, eB]; simp
   have hq1 : ¬ (9223372036854775807 < s1.size + x1.size) := by omega
   have hq2 : s1.size + x1.size + x2.size <= 9223372036854775807 := by omega
   have hq4 : (s1 ++ x1 ++ x2).size <= 30 := by rw [ByteArray.size_append, ByteArray.size_append]; omega
   have HQ4 := ah hq4; clear hx1 hx2 hq4; go_wp2_with fail; refine eu 10 (56 :: 57 :: 58 :: 59 :: 60 :: 61 :: 62 :: 63 :: 64 :: 65 :: []) (by kernel_rfl) (by kernel_rfl) (by kernel_rfl) (fun W => Below w1.heap.size w1 W) (fun W W' => Below W.heap.size W W')
    (gN ((.string s1) :: (.pointer (some ⟨w.heap.size, 3, none⟩)) :: (.agg #[.int .u64 t1, .int .u64 t2]) :: (.string x1) :: (.string (s1 ++ x1)) :: (.pointer (some ⟨w.heap.size, 5, none⟩)) :: (.slice pA n pc) :: (.int .i64 (n : Int)) :: (.string x2) :: (.string (s1 ++ x1 ++ x2)) :: [])) (fun W W' h1 h2 => h1.trans (h2.mono h1.size)) (fun i v W W' h _ => h) (Below.refl _ _).drew ?stepA ?tailA
   case stepA =>
    intro i o vs W hi ho hv hR hphi; obtain ⟨v0, v1, v2, v3, v4, v5, v6, v7, v8, v9, rfl⟩ := mP hv; simp only [List.zip, List.zipWith, aG, Act.put, List.setIfInBounds_toArray, List.set]; have hWz := hR.size; have g0 := (hR.cell (p := ⟨w.heap.size, 0, none⟩) (by show w.heap.size < _; omega)).trans c0; have g1 := (hR.cell (p := ⟨w.heap.size, 1, none⟩) (by show w.heap.size < _; omega)).trans c1; have g2 := (hR.cell (p := ⟨w.heap.size, 2, none⟩) (by show w.heap.size < _; omega)).trans c2; have g3 := (hR.cell (p := ⟨w.heap.size, 3, none⟩) (by show w.heap.size < _; omega)).trans c3; have g4 := (hR.cell (p := ⟨w.heap.size, 4, none⟩) (by show w.heap.size < _; omega)).trans c4; have g5 := (hR.cell (p := ⟨w.heap.size, 5, none⟩) (by show w.heap.size < _; omega)).trans c5; have g6 := (hR.cell (p := ⟨w.heap.size, 6, none⟩) (by show w.heap.size < _; omega)).trans c6; have g7 := (hR.cell (p := ⟨w.heap.size, 7, none⟩) (by show w.heap.size < _; omega)).trans c7; have g8 := (hR.cell (p := ⟨w.heap.size, 8, none⟩) (by show w.heap.size < _; omega)).trans c8
    match i, hi, ho with
    | 0, _, rfl =>
      exact .inl ⟨rfl, ax (v := .string s1) (w' := W) (by go_simp) ⟨Below.refl _ _, fun _ => aA⟩⟩
    | 1, _, rfl =>
      exact .inl ⟨rfl, ax (v := .pointer (some ⟨w.heap.size, 3, none⟩)) (w' := W) (by go_simp) ⟨Below.refl _ _, fun _ => aA⟩⟩
    | 2, _, rfl =>
      have e1 : v1 = _ := hphi ⟨1, .data⟩ (by simp) rfl v1 rfl _ rfl; subst e1; exact .inl ⟨rfl, ax (v := .agg #[.int .u64 t1, .int .u64 t2]) (w' := W) (by go_simp) ⟨Below.refl _ _, fun _ => aA⟩⟩
    | 3, _, rfl =>
      have e2 : v2 = _ := hphi ⟨2, .data⟩ (by simp) rfl v2 rfl _ rfl; subst e2; refine .inl ⟨rfl, bU (f := 131) (args := #[.agg #[.int .u64 t1, .int .u64 t2]]) (by go_simp) ((HX1.out W).mono ?_)⟩; rintro e W' ⟨rfl, hb2⟩; exact ⟨_, rfl, hb2, fun _ => aA⟩
    | 4, _, rfl =>
      have e0 : v0 = _ := hphi ⟨0, .data⟩ (by simp) rfl v0 rfl _ rfl; have e3 : v3 = _ := hphi ⟨3, .data⟩ (by simp) rfl v3 rfl _ rfl; subst e0 e3; exact .inl ⟨rfl, ax (v := .string (s1 ++ x1)) (w' := W) (by go_simp) ⟨Below.refl _ _, fun _ => aA⟩⟩
    | 5, _, rfl =>
      exact .inl ⟨rfl, ax (v := .pointer (some ⟨w.heap.size, 5, none⟩)) (w' := W) (by go_simp) ⟨Below.refl _ _, fun _ => aA⟩⟩
    | 6, _, rfl =>
      have e5 : v5 = _ := hphi ⟨5, .data⟩ (by simp) rfl v5 rfl _ rfl; subst e5; exact .inl ⟨rfl, ax (v := .slice pA n pc) (w' := W) (by go_simp) ⟨Below.refl _ _, fun _ => aA⟩⟩
    | 7, _, rfl =>
      have e6 : v6 = _ := hphi ⟨6, .data⟩ (by simp) rfl v6 rfl _ rfl; subst e6; exact .inl ⟨rfl, ax (v := .int .i64 (n : Int)) (w' := W) (by go_simp) ⟨Below.refl _ _, fun _ => aA⟩⟩
    | 8, _, rfl =>
      have e7 : v7 = _ := hphi ⟨7, .data⟩ (by simp) rfl v7 rfl _ rfl; subst e7; refine .inl ⟨rfl, bU (f := 129) (args := #[.int .i64 (n : Int)]) (by go_simp) ((HX2.out W).mono ?_)⟩; rintro e W' ⟨rfl, hb2⟩; exact ⟨_, rfl, hb2, fun _ => aA⟩
    | 9, _, rfl =>
      have e4 : v4 = _ := hphi ⟨4, .data⟩ (by simp) rfl v4 rfl _ rfl; have e8 : v8 = _ := hphi ⟨8, .data⟩ (by simp) rfl v8 rfl _ rfl; subst e4 e8; exact .inl ⟨rfl, ax (v := .string (s1 ++ x1 ++ x2)) (w' := W) (by go_simp) ⟨Below.refl _ _, fun _ => aA⟩⟩
    | i + 10, hi, _ => exact absurd hi (by omega)
   case tailA =>
    intro vs W hv hR hphi; obtain ⟨v0, v1, v2, v3, v4, v5, v6, v7, v8, v9, rfl⟩ := mP hv; simp only [List.zip, List.zipWith, aG, Act.put, List.setIfInBounds_toArray, List.set, List.drop]; have e0 : v0 = _ := hphi 0 v0 rfl _ rfl; have e1 : v1 = _ := hphi 1 v1 rfl _ rfl; have e2 : v2 = _ := hphi 2 v2 rfl _ rfl; have e3 : v3 = _ := hphi 3 v3 rfl _ rfl; have e4 : v4 = _ := hphi 4 v4 rfl _ rfl; have e5 : v5 = _ := hphi 5 v5 rfl _ rfl; have e6 : v6 = _ := hphi 6 v6 rfl _ rfl; have e7 : v7 = _ := hphi 7 v7 rfl _ rfl; have e8 : v8 = _ := hphi 8 v8 rfl _ rfl; have e9 : v9 = _ := hphi 9 v9 rfl _ rfl; subst e0 e1 e2 e3 e4 e5 e6 e7 e8 e9; clear hphi hv; have HB2 : Hid (Below w.heap.size w W) := HB1.out.trans (hR.mono HB1.out.size); have HK2 := ah (HK1.out.below hR z1); have z2 : w.heap.size < W.heap.size := HK2.out.lt; obtain ⟨w2, hw2⟩ : ∃ w2, w2 = W := ⟨_, rfl⟩
    subst hw2; clear hR c0 c1 c2 c3 c4 c5 c6 c7 c8; obtain ⟨c0, c1, c2, c3, c4, c5, c6, c7, c8⟩ := HK2.out.nine; go_wp2_with fail
    go_loopw [3, 6] (fun a i wr => ∃ (k : Nat) (s0 : ByteArray), a = .string s0 /\ i = .int .i64 (k : Int) /\ k <= n /\ Hid (s0 = ofL (aj 3 ++ ak (t1, t2) ++ aj n ++ (pars.take k).flatMap ak)) /\ s0.size <= 30 + 16 * k /\ Hid (Below w2.heap.size w2 wr)) (fun _ i _ => n - (intOf i).toNat)
    case atStart => exact ⟨0, s1 ++ x1 ++ x2, rfl, rfl, Nat.zero_le _, HSS.out, by have := HQ4.out; omega, Below.refl _ _⟩
    case round =>
     obtain ⟨k, s0, rfl, rfl, hk, hS, hsz0, hbw⟩ := hrel; have HBw : Hid (Below w.heap.size w wr) := HB2.out.trans (hbw.out.mono HB2.out.size); clear c0 c1 c2 c3 c4 c5 c6 c7 c8; obtain ⟨c0, c1, c2, c3, c4, c5, c6, c7, c8⟩ := (HK2.out.below hbw.out z2).nine; have zr := hbw.out.size; clear hq1 hq2; by_cases hlt : k < n
     . have hlz : (k : Int) < (n : Int) := by omega
       have hk0 : ¬ (k : Int) < 0 := by omega
       obtain ⟨bb, off, d, rfl, hbB, hd, y0, y1⟩ := (HP.out.below HBw.out hB).dg hlt; have hwd := HOP.out d (List.mem_of_getElem? hd); have HEX : Hid ((pars.take (k + 1)).flatMap ak = (pars.take k).flatMap ak ++ ak d) := kv hd; obtain ⟨d1, d2⟩ := d; simp only at y0 y1; obtain ⟨x3, hx3⟩ : ∃ x, ofL (ak (d1, d2)) = x := ⟨_, rfl⟩
       have hy3 : x3.size <= 16 := by rw [<- hx3, bN, dU]; omega
       have HX3 := ah (nk (d1, d2) hwd wr); unfold az at HX3; rw [hx3] at HX3; have HEE : Hid (s0 ++ x3 = ofL (aj 3 ++ ak (t1, t2) ++ aj n ++ (pars.take (k + 1)).flatMap ak)) := by
        show _ = _; rw [HEX.out, hS.out, <- hx3, eB]; simp only [List.append_assoc]
       have hq1 : ¬ (9223372036854775807 < s0.size + x3.size) := by omega
       have HQ5 : Hid ((s0 ++ x3).size <= 30 + 16 * (k + 1)) := by show _ <= _; rw [ByteArray.size_append]; omega
       clear hx3 hd hwd
       go_wp2_with (first | (go_at_call 131; refine HX3.out.mono ?_; rintro e w5 ⟨rfl, hb5⟩; refine aI ?_))
       refine aC ?_; have HB5 : Hid (Below w2.heap.size w2 w5) := hbw.out.trans (hb5.mono zr); clear hb5; go_wp2_with fail; go_roundw
       case rel => exact ⟨k + 1, _, rfl, by go_num, hlt, HEE.out, HQ5.out, HB5.out⟩
       case measure => simp [intOf]; omega
     . have hlz : ¬ (k : Int) < (n : Int) := by omega
       have HSE : Hid (s0 = ofL (aj 3 ++ ak (t1, t2) ++ aj n ++ pars.flatMap ak)) := by
        have := hS.out; rw [List.take_of_length_le (by rw [HPL.out]; omega)] at this; exact this
       clear HX1 HX2 HSS; obtain ⟨x1, hx1⟩ : ∃ x, ofL (au (toL auth)) = x := ⟨_, rfl⟩
       obtain ⟨x2, hx2⟩ : ∃ x, ofL (aj tn) = x := ⟨_, rfl⟩
       obtain ⟨x3, hx3⟩ : ∃ x, ofL (au (toL msg)) = x := ⟨_, rfl⟩
       have hz1 : x1.size <= 70000 := by rw [<- hx1, bN]; exact lG (by omega)
       have hz2 : x2.size <= 6 := by rw [<- hx2, bN]; exact bO 5 tn (by omega)
       have hz3 : x3.size <= 70000 := by rw [<- hx3, bN]; exact lG (by omega)
       have HX1 := ah (fun W => jC auth (by omega) W); have HX2 := ah (fun W => gp tn htn W); have HX3 := ah (fun W => jC msg (by omega) W); unfold gG at HX1 HX2 HX3; rw [hx1] at HX1; rw [hx2] at HX2; rw [hx3] at HX3; have HEE : Hid (s0 ++ x1 ++ x2 ++ x3 = ofL (aB ⟨3, ⟨#[]⟩, [], (t1, t2), pars, auth, (tn : Int), msg⟩)) := by
        show _ = _; rw [HENC.out, HSE.out, <- hx1, <- hx2, <- hx3, eB, eB, eB]; simp only [List.append_assoc]
       have hq1 : ¬ (9223372036854775807 < s0.size + x1.size) := by omega
       have hq2 : s0.size + x1.size + x2.size <= 9223372036854775807 := by omega
       have hq3 : s0.size + x1.size + x2.size + x3.size <= 9223372036854775807 := by omega
       clear hx1 hx2 hx3; go_wp2_with fail; refine eu 13 (81 :: 82 :: 83 :: 84 :: 85 :: 86 :: 87 :: 88 :: 89 :: 90 :: 91 :: 92 :: 93 :: []) (by kernel_rfl) (by kernel_rfl) (by kernel_rfl) (fun W => Below wr.heap.size wr W) (fun W W' => Below W.heap.size W W')
        (gN ((.string s0) :: (.pointer (some ⟨w.heap.size, 6, none⟩)) :: (.string auth) :: (.string x1) :: (.string (s0 ++ x1)) :: (.pointer (some ⟨w.heap.size, 7, none⟩)) :: (.int .i64 (tn : Int)) :: (.string x2) :: (.string (s0 ++ x1 ++ x2)) :: (.pointer (some ⟨w.heap.size, 8, none⟩)) :: (.string msg) :: (.string x3) :: (.string (s0 ++ x1 ++ x2 ++ x3)) :: [])) (fun W W' h1 h2 => h1.trans (h2.mono h1.size)) (fun i v W W' h _ => h) (Below.refl _ _).drew ?stepC ?tailC
       case stepC =>
        intro i o vs W hi ho hv hR hphi; obtain ⟨v0, v1, v2, v3, v4, v5, v6, v7, v8, v9, v10, v11, v12, rfl⟩ := yE hv; simp only [List.zip, List.zipWith, aG, Act.put, List.setIfInBounds_toArray, List.set]; have hWz := hR.size; have g0 := (hR.cell (p := ⟨w.heap.size, 0, none⟩) (by show w.heap.size < _; omega)).trans c0; have g1 := (hR.cell (p := ⟨w.heap.size, 1, none⟩) (by show w.heap.size < _; omega)).trans c1; have g2 := (hR.cell (p := ⟨w.heap.size, 2, none⟩) (by show w.heap.size < _; omega)).trans c2; have g3 := (hR.cell (p := ⟨w.heap.size, 3, none⟩) (by show w.heap.size < _; omega)).trans c3; have g4 := (hR.cell (p := ⟨w.heap.size, 4, none⟩) (by show w.heap.size < _; omega)).trans c4; have g5 := (hR.cell (p := ⟨w.heap.size, 5, none⟩) (by show w.heap.size < _; omega)).trans c5; have g6 := (hR.cell (p := ⟨w.heap.size, 6, none⟩) (by show w.heap.size < _; omega)).trans c6; have g7 := (hR.cell (p := ⟨w.heap.size, 7, none⟩) (by show w.heap.size < _; omega)).trans c7; have g8 := (hR.cell (p := ⟨w.heap.size, 8, none⟩) (by show w.heap.size < _; omega)).trans c8
        match i, hi, ho with
        | 0, _, rfl =>
          exact .inl ⟨rfl, ax (v := .string s0) (w' := W) (by go_simp) ⟨Below.refl _ _, fun _ => aA⟩⟩
        | 1, _, rfl =>
          exact .inl ⟨rfl, ax (v := .pointer (some ⟨w.heap.size, 6, none⟩)) (w' := W) (by go_simp) ⟨Below.refl _ _, fun _ => aA⟩⟩
        | 2, _, rfl =>
          have e1 : v1 = _ := hphi ⟨1, .data⟩ (by simp) rfl v1 rfl _ rfl; subst e1; exact .inl ⟨rfl, ax (v := .string auth) (w' := W) (by go_simp) ⟨Below.refl _ _, fun _ => aA⟩⟩
        | 3, _, rfl =>
          have e2 : v2 = _ := hphi ⟨2, .data⟩ (by simp) rfl v2 rfl _ rfl; subst e2; refine .inl ⟨rfl, bU (f := 130) (args := #[.string auth]) (by go_simp) ((HX1.out W).mono ?_)⟩; rintro e W' ⟨rfl, hb2⟩; exact ⟨_, rfl, hb2, fun _ => aA⟩
        | 4, _, rfl =>
          have e0 : v0 = _ := hphi ⟨0, .data⟩ (by simp) rfl v0 rfl _ rfl; have e3 : v3 = _ := hphi ⟨3, .data⟩ (by simp) rfl v3 rfl _ rfl; subst e0 e3; exact .inl ⟨rfl, ax (v := .string (s0 ++ x1)) (w' := W) (by go_simp) ⟨Below.refl _ _, fun _ => aA⟩⟩
        | 5, _, rfl =>
          exact .inl ⟨rfl, ax (v := .pointer (some ⟨w.heap.size, 7, none⟩)) (w' := W) (by go_simp) ⟨Below.refl _ _, fun _ => aA⟩⟩
        | 6, _, rfl =>
          have e5 : v5 = _ := hphi ⟨5, .data⟩ (by simp) rfl v5 rfl _ rfl; subst e5; exact .inl ⟨rfl, ax (v := .int .i64 (tn : Int)) (w' := W) (by go_simp) ⟨Below.refl _ _, fun _ => aA⟩⟩
        | 7, _, rfl =>
          have e6 : v6 = _ := hphi ⟨6, .data⟩ (by simp) rfl v6 rfl _ rfl; subst e6; refine .inl ⟨rfl, bU (f := 129) (args := #[.int .i64 (tn : Int)]) (by go_simp) ((HX2.out W).mono ?_)⟩; rintro e W' ⟨rfl, hb2⟩; exact ⟨_, rfl, hb2, fun _ => aA⟩
        | 8, _, rfl =>
          have e4 : v4 = _ := hphi ⟨4, .data⟩ (by simp) rfl v4 rfl _ rfl; have e7 : v7 = _ := hphi ⟨7, .data⟩ (by simp) rfl v7 rfl _ rfl; subst e4 e7; exact .inl ⟨rfl, ax (v := .string (s0 ++ x1 ++ x2)) (w' := W) (by go_simp) ⟨Below.refl _ _, fun _ => aA⟩⟩
        | 9, _, rfl =>
          exact .inl ⟨rfl, ax (v := .pointer (some ⟨w.heap.size, 8, none⟩)) (w' := W) (by go_simp) ⟨Below.refl _ _, fun _ => aA⟩⟩
        | 10, _, rfl =>
          have e9 : v9 = _ := hphi ⟨9, .data⟩ (by simp) rfl v9 rfl _ rfl; subst e9; exact .inl ⟨rfl, ax (v := .string msg) (w' := W) (by go_simp) ⟨Below.refl _ _, fun _ => aA⟩⟩
        | 11, _, rfl =>
          have e10 : v10 = _ := hphi ⟨10, .data⟩ (by simp) rfl v10 rfl _ rfl; subst e10; refine .inl ⟨rfl, bU (f := 130) (args := #[.string msg]) (by go_simp) ((HX3.out W).mono ?_)⟩; rintro e W' ⟨rfl, hb2⟩; exact ⟨_, rfl, hb2, fun _ => aA⟩
        | 12, _, rfl =>
          have e8 : v8 = _ := hphi ⟨8, .data⟩ (by simp) rfl v8 rfl _ rfl; have e11 : v11 = _ := hphi ⟨11, .data⟩ (by simp) rfl v11 rfl _ rfl; subst e8 e11; exact .inl ⟨rfl, ax (v := .string (s0 ++ x1 ++ x2 ++ x3)) (w' := W) (by go_simp) ⟨Below.refl _ _, fun _ => aA⟩⟩
        | i + 13, hi, _ => exact absurd hi (by omega)
       case tailC =>
        intro vs W hv hR hphi; obtain ⟨v0, v1, v2, v3, v4, v5, v6, v7, v8, v9, v10, v11, v12, rfl⟩ := yE hv; simp only [List.zip, List.zipWith, aG, Act.put, List.setIfInBounds_toArray, List.set, List.drop]; have e0 : v0 = _ := hphi 0 v0 rfl _ rfl; have e1 : v1 = _ := hphi 1 v1 rfl _ rfl; have e2 : v2 = _ := hphi 2 v2 rfl _ rfl; have e3 : v3 = _ := hphi 3 v3 rfl _ rfl; have e4 : v4 = _ := hphi 4 v4 rfl _ rfl; have e5 : v5 = _ := hphi 5 v5 rfl _ rfl; have e6 : v6 = _ := hphi 6 v6 rfl _ rfl; have e7 : v7 = _ := hphi 7 v7 rfl _ rfl; have e8 : v8 = _ := hphi 8 v8 rfl _ rfl; have e9 : v9 = _ := hphi 9 v9 rfl _ rfl; have e10 : v10 = _ := hphi 10 v10 rfl _ rfl; have e11 : v11 = _ := hphi 11 v11 rfl _ rfl; have e12 : v12 = _ := hphi 12 v12 rfl _ rfl; subst e0 e1 e2 e3 e4 e5 e6 e7 e8 e9 e10 e11 e12; clear hphi hv; have HBz : Hid (Below w.heap.size w W) := HBw.out.trans (hR.mono HBw.out.size); clear hR; go_wp2_with fail; go_ret
        exact ⟨by rw [<- HEE.out]; rfl, HBz.out⟩
structure ObB (o : Ob) : Prop where
 tree : WfD o.tree
 pars : ∀ d ∈ o.pars, WfD d
 auth : o.auth.size <= 1000000
 msg : o.msg.size <= 1000000
 t0 : 0 <= o.time
 t1 : o.time <= 1099511627776
 es : ∀ e ∈ o.ents, e.nm.size <= 1000000
 ew : ∀ e ∈ o.ents, WfD e.dg
theorem Ay (o : Ob) (s : Osl) (B : Nat) (w : World) (hm : ObM w B o s) (hB : B <= w.heap.size) (hb : ObB o) :
  Calls Tryz.prog 102 #[obV o s] w (ChE (OkO o) w) := by
 obtain ⟨W0, hW⟩ : ∃ W, w.alloc (.cells (obC o s) 75) = W := ⟨_, rfl⟩
 have HB0 : Hid (Below w.heap.size w W0) := by rw [<- hW]; exact (Below.refl _ w).alloc ai _
 have HK0 : Hid (Bk W0 w.heap.size 75 (obC o s)) := by rw [<- hW]; exact Bk.new w _ _
 have zk : w.heap.size < W0.heap.size := HK0.out.lt; have HM := ah hm; have HF := ah (zL o s B W0 (hm.below (HB0.out.mono hB) ai) (by omega) hb.tree hb.pars hb.auth hb.msg hb.t0 hb.t1 hb.es hb.ew); have HE := ah (fun W h1 h2 h3 => sD o s B W h1 h2 h3); have HOF : Hid (OkO o -> OkF o) := fun h => h.f; have HOL : Hid (OkO o -> (aB o).length <= 65536) := fun h => h.len; have HOK : Hid (OkF o -> (aB o).length <= 65536 -> OkO o) := fun h1 h2 => ⟨h1, h2⟩
 obtain ⟨bs, hbs⟩ : ∃ bs, ofL (aB o) = bs := ⟨_, rfl⟩
 have hsz : bs.size = (aB o).length := by rw [<- hbs]; rfl
 unfold gG at HE; rw [hbs] at HE; rw [<- hsz] at HOL HOK; generalize OkO o = p at *; generalize hq : OkF o = q at *; obtain ⟨kind, data, ents, ⟨t1, t2⟩, pars, auth, time, msg⟩ := o; obtain ⟨eA, en, ec, pA, pn, pc⟩ := s; simp only [obV, obC] at hW HK0 HF HE ⊢; obtain ⟨c0, c1, c2, c3, c4, c5, c6, c7, c8⟩ := HK0.out.nine; clear hm hbs hsz hb hq
 go_enter Tryz.func102, Tryz.ntmps102
 go_wp2_with fail; refine HF.out.mono ?_; rintro e w1 ⟨z, rfl, hz, hb1⟩; have HZ := ah hz; have HB1 : Hid (Below w.heap.size w w1) := HB0.out.trans (hb1.mono HB0.out.size); have HK1 := ah (HK0.out.below hb1 zk); clear hz hb1 hW c0 c1 c2 c3 c4 c5 c6 c7 c8; obtain ⟨c0, c1, c2, c3, c4, c5, c6, c7, c8⟩ := HK1.out.nine; by_cases h0 : z = 0
 case neg =>
  have hzn : (z != 0) = true := by rw [bne_iff_ne]; exact h0
  have HN : Hid (¬ p) := fun h => h0 (HZ.out.2 (HOF.out h)); have HZN := ah h0; clear h0; go_wp2_with fail; go_ret
  exact ChE.no HZN.out HN.out HB1.out
 subst h0; have HQ := ah (HZ.out.1 rfl)
 go_wp2_with (first | (go_at_call 103; refine (HE.out w1 (HM.out.below (HB1.out.mono hB) ai) (by have := HB1.out.size; omega) HQ.out).mono ?_; rintro e w2 ⟨rfl, hb2⟩; refine aI ?_))
 refine aC ?_; have HB2 : Hid (Below w.heap.size w w2) := HB1.out.trans (hb2.mono HB1.out.size); clear hb2; by_cases hl : 65536 < bs.size
 . have hlz : (65536 : Int) < (bs.size : Int) := by omega
   have HN : Hid (¬ p) := fun h => by have := HOL.out h; omega
   clear hl; go_wp2_with fail; go_ret
   exact ChE.no (by decide) HN.out HB2.out
 . have hlz : ¬ (65536 : Int) < (bs.size : Int) := by omega
   have HY := ah (HOK.out HQ.out (by omega)); clear hl; go_wp2_with fail; go_ret
   exact ChE.yes HY.out HB2.out
def EnP (p : Prop) (bs : ByteArray) (w : World) (e : Ending) (w' : World) : Prop := ((p /\ e = .returned (.tuple #[.string bs, .int .i64 0])) ∨ (¬ p /\ ∃ z, z ≠ 0 /\ e = .returned (.tuple #[.string ⟨#[]⟩, .int .i64 z]))) /\ Below w.heap.size w w'
def En7 (o : Ob) (w : World) (e : Ending) (w' : World) : Prop := EnP (OkO o) (ofL (aB o)) w e w'
theorem jk (o : Ob) (s : Osl) (B : Nat) (w : World) (hm : ObM w B o s) (hB : B <= w.heap.size) (hb : ObB o) :
  Calls Tryz.prog 68 #[obV o s] w (En7 o w) := by
 obtain ⟨W0, hW⟩ : ∃ W, w.alloc (.cells (obC o s) 75) = W := ⟨_, rfl⟩
 have HB0 : Hid (Below w.heap.size w W0) := by rw [<- hW]; exact (Below.refl _ w).alloc ai _
 have HK0 : Hid (Bk W0 w.heap.size 75 (obC o s)) := by rw [<- hW]; exact Bk.new w _ _
 have zk : w.heap.size < W0.heap.size := HK0.out.lt; have HM := ah hm; have HF := ah (Ay o s B W0 (hm.below (HB0.out.mono hB) ai) (by omega) hb); have HE := ah (fun W h1 h2 (h3 : OkO o) => sD o s B W h1 h2 h3.f); show Calls _ _ _ w (EnP (OkO o) (ofL (aB o)) w); obtain ⟨bs, hbs⟩ : ∃ bs, ofL (aB o) = bs := ⟨_, rfl⟩
 unfold gG at HE; rw [hbs] at HE ⊢; generalize OkO o = p at *; obtain ⟨kind, data, ents, ⟨t1, t2⟩, pars, auth, time, msg⟩ := o; obtain ⟨eA, en, ec, pA, pn, pc⟩ := s; simp only [obV, obC] at hW HK0 HF HE ⊢; obtain ⟨c0, c1, c2, c3, c4, c5, c6, c7, c8⟩ := HK0.out.nine; clear hm hbs hb
 go_enter Tryz.func68, Tryz.ntmps68
 go_wp2_with fail; refine HF.out.mono ?_; rintro e w1 ⟨z, rfl, hz, hb1⟩; have HZ := ah hz; have HB1 : Hid (Below w.heap.size w w1) := HB0.out.trans (hb1.mono HB0.out.size); have HK1 := ah (HK0.out.below hb1 zk); clear hz hb1 hW c0 c1 c2 c3 c4 c5 c6 c7 c8; obtain ⟨c0, c1, c2, c3, c4, c5, c6, c7, c8⟩ := HK1.out.nine; by_cases h0 : z = 0
 case neg =>
  have hzn : (z != 0) = true := by rw [bne_iff_ne]; exact h0
  have HN : Hid (¬ p) := fun h => h0 (HZ.out.2 h); have HZN := ah h0; clear h0; go_wp2_with fail; go_ret2
  exact ⟨.inr ⟨HN.out, z, HZN.out, rfl⟩, HB1.out⟩
 subst h0; have HQ := ah (HZ.out.1 rfl)
 go_wp2_with (first | (go_at_call 103; refine (HE.out w1 (HM.out.below (HB1.out.mono hB) ai) (by have := HB1.out.size; omega) HQ.out).mono ?_; rintro e w2 ⟨rfl, hb2⟩; refine aI ?_))
 refine aC ?_; have HB2 : Hid (Below w.heap.size w w2) := HB1.out.trans (hb2.mono HB1.out.size); clear hb2; go_wp2_with fail; go_ret2
 exact ⟨.inl ⟨HQ.out, rfl⟩, HB2.out⟩
end Go.Proofs.YtlcecobipgmafaaGreatDoor
