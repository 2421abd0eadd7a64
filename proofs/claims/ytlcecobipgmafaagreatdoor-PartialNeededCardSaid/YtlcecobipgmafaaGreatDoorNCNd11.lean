/-
  Lemmas of the card.
-/
import Derived.Deep.LoopGhost
import Derived.Lib.Overlaps
import Derived.Laws.IdiomCopy
import Derived.Deep.RegionLaw
import Derived.Deep.QuietTactic
import Derived.BigQuiet
import Derived.Test.YtlcecobipgmafaaGreatDoorNCNd10
import Derived.Test.YtlcecobipgmafaaGreatDoorNCNd5
import Derived.Test.YtlcecobipgmafaaGreatDoorNCNd2
import Derived.Test.YtlcecobipgmafaaGreatDoorNCNd9
import Derived.Test.YtlcecobipgmafaaGreatDoorNCNd8
import Derived.Test.YtlcecobipgmafaaGreatDoorNCNd3
import Derived.Test.YtlcecobipgmafaaGreatDoorNCNd4
set_option maxRecDepth 100000
set_option maxHeartbeats 16000000
namespace Go.Proofs.YtlcecobipgmafaaGreatDoor
open Go.RowKit
section
open Go.RowKit Go.Shelf Go.Sort Go.Lib
attribute [local go_sem] Oper.semAt_some
def Gro (w w' : World) : Prop := ∃ q os', w' = grow (w.drewN q) os'
section
variable {a b c : World}
theorem Gro.refl (w : World) : Gro w w := ⟨0, #[], by rw [grow_empty]; rfl⟩
theorem Gro.alloc (h : Gro a b) (o : Obj) : Gro a (b.alloc o) := by
 obtain ⟨q, os, rfl⟩ := h; exact ⟨q, os ++ #[o], by rw [alloc_eq_grow, grow_grow]⟩
theorem Ag (w : World) (os : Array Obj) (k : Nat) : (grow w os).drewN k = grow (w.drewN k) os := by
 simp [World.drewN, grow]
theorem drewN_drewN (w : World) (i j : Nat) : (w.drewN i).drewN j = w.drewN (i + j) := by
 simp [World.drewN, Nat.add_assoc]
theorem Gro.drew (h : Gro a b) : Gro a b.drew := by
 obtain ⟨q, os, rfl⟩ := h; exact ⟨q + 1, os, by rw [drew_grow, <- drewN_drewN]; rfl⟩
theorem Gro.trans (h : Gro a b) (g : Gro b c) : Gro a c := by
 obtain ⟨q, os, rfl⟩ := h; obtain ⟨q2, os2, rfl⟩ := g; exact ⟨q + q2, os ++ os2, by rw [Ag, grow_grow, drewN_drewN]⟩
theorem Gro.bel (h : Gro a b) : Below a.heap.size a b := by
 obtain ⟨q, os, rfl⟩ := h; exact ⟨rfl, rfl, rfl, by simp [grow, World.drewN], fun k hk => by
  simp only [grow, World.drewN]; rw [Array.getElem?_append_left (by simpa using hk)]⟩
end
def CmG (a b : Dig) (w : World) (e : Ending) (w' : World) : Prop := e = .returned (.int .i64 (bL a b)) /\ Gro w w'
theorem BI (a b : Dig) (w : World) : Calls Tryz.prog 35 #[az a, az b] w (CmG a b w) := by
 obtain ⟨a1, a2⟩ := a; obtain ⟨b1, b2⟩ := b; obtain ⟨z, hz⟩ : ∃ z, bL (a1, a2) (b1, b2) = z := ⟨_, rfl⟩
 have HZ := ah hz; have HN : Hid (((a1, a2) : Dig) ≠ (b1, b2) -> z = orI [aY a1 b1, aY a2 b2]) := fun h => by rw [<- hz]; exact vU _ _ h
 clear hz; unfold CmG; rw [HZ.out]; have HD : Hid ((a1 == b1 && a2 == b2) = decide (((a1, a2) : Dig) = (b1, b2))) := by
  show _ = _; rw [Bool.eq_iff_iff]; simp
 simp only [az]; obtain ⟨wz, hW⟩ : ∃ wz, (w.alloc (.cells #[.int .u64 a1, .int .u64 a2] 42)).alloc (.cells #[.int .u64 b1, .int .u64 b2] 42) = wz := ⟨_, rfl⟩
 have HA : Hid (Bk wz w.heap.size 42 #[.int .u64 a1, .int .u64 a2]) := by rw [<- hW]; exact (Bk.new w _ _).alloc _
 have HB : Hid (Bk wz (w.heap.size + 1) 42 #[.int .u64 b1, .int .u64 b2]) := by
  rw [<- hW]; have := Bk.new (w.alloc (.cells #[.int .u64 a1, .int .u64 a2] 42)) 42 #[.int .u64 b1, .int .u64 b2]; rw [World.size_alloc] at this; exact this
 have HL : Hid (Gro w wz) := by rw [<- hW]; exact ((Gro.refl w).alloc _).alloc _
 have hzW : w.heap.size + 2 = wz.heap.size := by rw [<- hW]; simp
 obtain ⟨c0, c1, _, _⟩ := HA.out.two; obtain ⟨c2, c3, _, _⟩ := HB.out.two; have HC1 := ah (fun w => lq a1 b1 w); have HC2 := ah (fun w => lq a2 b2 w); by_cases h : ((a1, a2) : Dig) = (b1, b2)
 . have hd := HD.out
   rw [decide_eq_true h] at hd; have H0 : Hid (z = 0) := by show _ = _; rw [<- HZ.out]; exact (kS _ _).2 h
   clear h
   go_enter Tryz.func35, Tryz.ntmps35
   go_wp2_with fail; go_ret
   exact ⟨by rw [H0.out]; rfl, HL.out⟩
 . have hd := HD.out
   rw [decide_eq_false h] at hd; have H0 : Hid (z = orI [aY a1 b1, aY a2 b2]) := HN.out h; clear h
   go_enter Tryz.func35, Tryz.ntmps35
   go_wp2_with fail; have HSP : Hid (∀ x ∈ [(10, SlP a1 a2 b1 b2)], ∀ v W W', x.2 v W -> Below W.heap.size W W' -> x.2 v W') := fun x hx v W W' h hb => by
    simp only [List.mem_singleton] at hx; subst hx; obtain ⟨b0, h1, h2⟩ := h; exact ⟨b0, h1, h2.below hb h2.lt⟩
   have k0 := c0; have k1 := c1; have k2 := c2; have k3 := c3; refine eu 12 (8 :: 9 :: 10 :: 11 :: 12 :: 13 :: 14 :: 15 :: 16 :: 17 :: 18 :: 19 :: []) (by kernel_rfl) (by kernel_rfl) (by kernel_rfl) (fun W => Gro wz W) (fun W W' => Gro W W')
    (fM [(10, SlP a1 a2 b1 b2)] ((.pointer (some ⟨w.heap.size, 0, none⟩)) :: (.int .u64 a1) :: (.pointer (some ⟨w.heap.size + 1, 0, none⟩)) :: (.int .u64 b1) :: (.int .i64 (aY a1 b1)) :: (.pointer (some ⟨w.heap.size, 1, none⟩)) :: (.int .u64 a2) :: (.pointer (some ⟨w.heap.size + 1, 1, none⟩)) :: (.int .u64 b2) :: (.int .i64 (aY a2 b2)) :: (undef) :: (.int .i64 (orI [aY a1 b1, aY a2 b2])) :: [])) (fun W W' h1 h2 => h1.trans h2) (fun i v W W' h hb => iF HSP.out i v W W' h hb.bel) (Gro.refl _).drew ?stepA ?tailA
   case stepA =>
    intro i o vs W hi ho hv hR hphi; obtain ⟨v0, v1, v2, v3, v4, v5, v6, v7, v8, v9, v10, v11, rfl⟩ := jh hv; simp only [List.zip, List.zipWith, aG, Act.put, List.setIfInBounds_toArray, List.set]; have hWz := hR.bel.size; have c0 := (hR.bel.cell (p := ⟨w.heap.size, 0, none⟩) (by show w.heap.size < _; omega)).trans k0; have c1 := (hR.bel.cell (p := ⟨w.heap.size, 1, none⟩) (by show w.heap.size < _; omega)).trans k1; have c2 := (hR.bel.cell (p := ⟨w.heap.size + 1, 0, none⟩) (by show w.heap.size + 1 < _; omega)).trans k2; have c3 := (hR.bel.cell (p := ⟨w.heap.size + 1, 1, none⟩) (by show w.heap.size + 1 < _; omega)).trans k3
    match i, hi, ho with
    | 0, _, rfl =>
      exact .inl ⟨rfl, ax (v := .pointer (some ⟨w.heap.size, 0, none⟩)) (w' := W) (by go_simp) ⟨Gro.refl _, fun _ => aA⟩⟩
    | 1, _, rfl =>
      have e0 : v0 = _ := hphi ⟨0, .data⟩ (by simp) rfl v0 rfl _ rfl; subst e0; exact .inl ⟨rfl, ax (v := .int .u64 a1) (w' := W) (by go_simp) ⟨Gro.refl _, fun _ => aA⟩⟩
    | 2, _, rfl =>
      exact .inl ⟨rfl, ax (v := .pointer (some ⟨w.heap.size + 1, 0, none⟩)) (w' := W) (by go_simp) ⟨Gro.refl _, fun _ => aA⟩⟩
    | 3, _, rfl =>
      have e2 : v2 = _ := hphi ⟨2, .data⟩ (by simp) rfl v2 rfl _ rfl; subst e2; exact .inl ⟨rfl, ax (v := .int .u64 b1) (w' := W) (by go_simp) ⟨Gro.refl _, fun _ => aA⟩⟩
    | 4, _, rfl =>
      have e1 : v1 = _ := hphi ⟨1, .data⟩ (by simp) rfl v1 rfl _ rfl; have e3 : v3 = _ := hphi ⟨3, .data⟩ (by simp) rfl v3 rfl _ rfl; subst e1 e3; refine .inl ⟨rfl, bU (f := 59) (args := #[.int .u64 a1, .int .u64 b1]) (by go_simp) ((HC1.out W).mono ?_)⟩; rintro e W' ⟨rfl, rfl⟩; exact ⟨_, rfl, Gro.refl _, fun _ => aA⟩
    | 5, _, rfl =>
      exact .inl ⟨rfl, ax (v := .pointer (some ⟨w.heap.size, 1, none⟩)) (w' := W) (by go_simp) ⟨Gro.refl _, fun _ => aA⟩⟩
    | 6, _, rfl =>
      have e5 : v5 = _ := hphi ⟨5, .data⟩ (by simp) rfl v5 rfl _ rfl; subst e5; exact .inl ⟨rfl, ax (v := .int .u64 a2) (w' := W) (by go_simp) ⟨Gro.refl _, fun _ => aA⟩⟩
    | 7, _, rfl =>
      exact .inl ⟨rfl, ax (v := .pointer (some ⟨w.heap.size + 1, 1, none⟩)) (w' := W) (by go_simp) ⟨Gro.refl _, fun _ => aA⟩⟩
    | 8, _, rfl =>
      have e7 : v7 = _ := hphi ⟨7, .data⟩ (by simp) rfl v7 rfl _ rfl; subst e7; exact .inl ⟨rfl, ax (v := .int .u64 b2) (w' := W) (by go_simp) ⟨Gro.refl _, fun _ => aA⟩⟩
    | 9, _, rfl =>
      have e6 : v6 = _ := hphi ⟨6, .data⟩ (by simp) rfl v6 rfl _ rfl; have e8 : v8 = _ := hphi ⟨8, .data⟩ (by simp) rfl v8 rfl _ rfl; subst e6 e8; refine .inl ⟨rfl, bU (f := 59) (args := #[.int .u64 a2, .int .u64 b2]) (by go_simp) ((HC2.out W).mono ?_)⟩; rintro e W' ⟨rfl, rfl⟩; exact ⟨_, rfl, Gro.refl _, fun _ => aA⟩
    | 10, _, rfl =>
      have e4 : v4 = _ := hphi ⟨4, .data⟩ (by simp) rfl v4 rfl _ rfl; have e9 : v9 = _ := hphi ⟨9, .data⟩ (by simp) rfl v9 rfl _ rfl; subst e4 e9; exact .inl ⟨rfl, ax (v := .slice (some ⟨W.heap.size, 0, none⟩) 2 2) (w' := W.alloc (.cells #[.int .i64 (aY a1 b1), .int .i64 (aY a2 b2)] 3)) (by go_simp) ⟨(Gro.refl W).alloc _, W.heap.size, rfl, Bk.new W _ _⟩⟩
    | 11, _, rfl =>
      obtain ⟨b0, rfl, hbk⟩ : (SlP a1 a2 b1 b2) v10 W := hphi ⟨10, .data⟩ (by simp) rfl v10 rfl; refine .inl ⟨rfl, bU (f := 58) (args := #[.slice (some ⟨b0, 0, none⟩) 2 2]) (by go_simp) ((wE b0 3 _ _ W hbk).mono ?_)⟩; rintro e W' ⟨rfl, rfl⟩; exact ⟨_, rfl, Gro.refl _, fun _ => aA⟩
    | i + 12, hi, _ => exact absurd hi (by omega)
   case tailA =>
    intro vs W hv hR hphi; obtain ⟨v0, v1, v2, v3, v4, v5, v6, v7, v8, v9, v10, v11, rfl⟩ := jh hv; simp only [List.zip, List.zipWith, aG, Act.put, List.setIfInBounds_toArray, List.set, List.drop]; have e0 : v0 = _ := hphi 0 v0 rfl _ rfl; have e1 : v1 = _ := hphi 1 v1 rfl _ rfl; have e2 : v2 = _ := hphi 2 v2 rfl _ rfl; have e3 : v3 = _ := hphi 3 v3 rfl _ rfl; have e4 : v4 = _ := hphi 4 v4 rfl _ rfl; have e5 : v5 = _ := hphi 5 v5 rfl _ rfl; have e6 : v6 = _ := hphi 6 v6 rfl _ rfl; have e7 : v7 = _ := hphi 7 v7 rfl _ rfl; have e8 : v8 = _ := hphi 8 v8 rfl _ rfl; have e9 : v9 = _ := hphi 9 v9 rfl _ rfl; have e10 : (SlP a1 a2 b1 b2) v10 W := hphi 10 v10 rfl; have e11 : v11 = _ := hphi 11 v11 rfl _ rfl; subst e0 e1 e2 e3 e4 e5 e6 e7 e8 e9 e11; clear hphi hv; obtain ⟨b0, rfl, _⟩ := e10; go_wp2_with fail; go_ret
    exact ⟨by rw [H0.out]; rfl, HL.out.trans hR⟩
theorem Bn (x y : Dig) (W : World) : Calls Tryz.prog 35 #[.agg (dgC x).toArray, .agg (dgC y).toArray] W fun e w' => e = .returned (.int .i64 (bL x y)) /\ ∃ q os', w' = grow (W.drewN q) os' := BI x y W
theorem lQ (x y : Dig) : ltOf bL x y = decide (ltD x y) := by
 unfold ltOf; rw [Bool.eq_iff_iff, decide_eq_true_iff, decide_eq_true_iff]; exact iR x y
theorem Gp : SWO (ltOf bL) where
 irrefl x := by rw [lQ]; exact decide_eq_false (dQ x)
 trans x y z h1 h2 := by
  rw [lQ, decide_eq_true_iff] at *; exact fo h1 h2
 ntrans x y z h1 h2 := by
  rw [lQ, decide_eq_false_iff_not] at *; intro h3; by_cases h4 : ltD z y
  . exact h1 (fo h3 h4)
  . have := lD h2 h4
    rw [this] at h1; exact h1 h3
def SrtG (ts : List Dig) : Prop := ts.Pairwise (fun a b => ¬ ltD b a)
theorem su (ts : List Dig) : (flatK dgC 2 ts.toArray).toList = flat dgC ts := by
 apply List.ext_getElem?
 intro t; by_cases ht : t < ts.length * 2
 . have hk : t / 2 < ts.length := by omega
   have hx : ts[t / 2]? = some ts[t / 2] := List.getElem?_eq_getElem hk; have h1 := ow aS ts (t / 2) (t % 2) _ hx (by omega); rw [show t / 2 * 2 + t % 2 = t by omega] at h1; have h2 : t < (flatK dgC 2 ts.toArray).size := by simpa using ht
   rw [h1, Array.getElem?_toList, Array.getElem?_eq_getElem h2]; have h3 := get_flatK dgC 2 ts.toArray t (by simpa using ht); rw [getElem!_pos (flatK dgC 2 ts.toArray) t h2] at h3; rw [h3, show ts.toArray[t / 2]! = ts[t / 2] by simp [hk]]; have h4 : t % 2 < (dgC ts[t / 2]).length := by rw [aS]; omega
   rw [getElem!_pos (dgC ts[t / 2]) (t % 2) h4, List.getElem?_eq_getElem h4]
 . rw [List.getElem?_eq_none (by simp; omega), List.getElem?_eq_none (by rw [gq aS]; omega)]
theorem Cm {w : World} {base n c : Nat} {A : OA} {e : TypeId} {ts : List Dig} (h : w.ownsRow base e 2 (.slice A n c) n (flat dgC ts)) : ts.length = n := by
 have := h.1; rw [gq aS] at this; omega
theorem zS (base n c : Nat) (A : OA) (ts : List Dig) (w : World) (h : w.ownsRow base 42 2 (.slice A n c) n (flat dgC ts)) (hn : n <= 1000000000) :
  Calls Tryz.prog 42 #[.slice A n c, .func (.func 35) #[] #[]] w fun e w' => e = .returned (.tuple #[]) /\ ∃ us, us.Perm ts /\ SrtG us /\ w'.ownsRow base 42 2 (.slice A n c) n (flat dgC us) /\ w.grownBy w' (Value.slice A n c).ownBlock := by
 have hl := Cm h; have eg : ∀ args w, (callFunc 35 args).run Tryz.prog w = .ok (.enter 35 args) w := enters_of Tryz.func35 (by kernel_rfl) rfl; rcases h.2 with ⟨hv, h0⟩ | ⟨g, cap, cur, hv, h1, h2, h3, h4, h5, h6⟩
 . simp only [Value.slice.injEq] at hv
   obtain ⟨rfl, _, rfl⟩ := hv; subst h0; obtain rfl : ts = [] := List.eq_nil_of_length_eq_zero hl; have hc := AnyF.slices_SortFunc_none Tryz.sortDig none 0 (.func (.func 35) #[] #[]) w; change Calls Tryz.prog 42 _ _ _ at hc; refine hc.mono ?_; rintro e w' ⟨rfl, rfl⟩; exact ⟨rfl, [], .refl _, List.Pairwise.nil, h, rfl, rfl, rfl, Nat.le_refl _, fun _ _ _ => rfl⟩
 . simp only [Value.slice.injEq] at hv
   obtain ⟨rfl, _, rfl⟩ := hv; have hsz : n * 2 <= cur.size := by omega
   have hlt := (Array.getElem?_eq_some_iff.1 h2).1; have hH : HoldsK dgC 2 w g 0 ts.toArray := by
    intro j hj; have hj' : j < ts.length * 2 := by simpa using hj
    refine ⟨?_, by simp [World.frozen?, h2]⟩; have h7 : (flat dgC ts)[j]? = some ((flatK dgC 2 ts.toArray)[j]!) := by
     rw [<- su, Array.getElem?_toList, Array.getElem?_eq_getElem (by simpa using hj'), getElem!_pos (flatK dgC 2 ts.toArray) j (by simpa using hj')]
    rw [<- h6, List.getElem?_take, if_pos (by omega)] at h7; show w.cell? ⟨g, 0 + j, none⟩ = _; simp [World.cell?, h2]
    simpa using h7
   have hc := AnyQ.slices_SortFunc Tryz.sortDig 2 Tryz.isAgg42 Tryz.sizeOf42 dgC aS (fun x v hv => by simp [dgC] at hv; rcases hv with rfl | rfl <;> rfl) bL Gp 35 #[] g 0 c ts.toArray w eg (fun _ _ _ _ x y => Bn x y _) hH hlt (by simp; omega); change Calls Tryz.prog 42 _ _ _ at hc; rw [List.size_toArray, hl] at hc; refine hc.mono ?_; rintro e w' ⟨rfl, d', k, os, hp, hs, rfl⟩; have hd : d'.size = n := by rw [hp.1]; simpa using hl
   have hpp : d'.toList.Perm ts := by
    have := hp.2.2; have e1 : d'.extract 0 n = d' := by rw [<- hd]; simp
    have e2 : ts.toArray.extract 0 n = ts.toArray := by rw [<- hl]; simp
    rw [e1, e2] at this
    simpa using this
   have hso : SrtG d'.toList := by
    unfold SrtG; rw [List.pairwise_iff_getElem]; intro i j hi hj hij; have hi' : i < d'.size := by simpa using hi
    have hj' : j < d'.size := by simpa using hj
    have := hs i j (Nat.zero_le _) hij (by omega); rw [lQ, decide_eq_false_iff_not, getElem!_pos d' j hj', getElem!_pos d' i hi'] at this
    simpa using this
   have hfs : (flatK dgC 2 d').size = n * 2 := by rw [size_flatK, hd]
   refine ⟨rfl, d'.toList, hpp, hso, ⟨by rw [gq aS, Array.length_toList, hd], .inr ⟨g, c, putCells id 0 (flatK dgC 2 d') cur, rfl, h1, ?_, h3, h4, by simp [putCells]; omega, ?_⟩⟩, rfl, rfl, rfl, by simp [sortWorldK, putRowK, grow, putRow, mapBlock, Sort.ahead], fun b hb hr => ?_⟩
   . simp only [sortWorldK, putRowK, grow, putRow, mapBlock, Sort.ahead]
     rw [Array.getElem?_append_left (by simpa using hlt), Array.getElem?_modify, if_pos rfl, h2]; rfl
   . rw [yV 0 (n * 2) _ cur hfs rfl hsz, <- su]
   . simp only [sortWorldK, putRowK, grow, putRow, mapBlock, Sort.ahead]
     rw [Array.getElem?_append_left (by simpa using hb), Array.getElem?_modify, if_neg (fun e => hr (by rw [e]; rfl))]
theorem SrtG.asc {ts : List Dig} (h : SrtG ts) (hn : ts.Nodup) : AscD ts := by
 unfold AscD; refine List.Pairwise.imp₂ (fun a b h1 h2 => ?_) h hn; exact Classical.byContradiction fun h3 => h2 (lD h3 h1)
end
section
open Go.Maps
attribute [local go_sem] Oper.semAt_some
structure AqI (w0 base : Nat) (pre : List Dig) (A : OA) (c : Nat) (w W : World) : Prop where
 x : W.heap[w0]? = some (.cells #[.slice A pre.length c] 24 (0, 0))
 o : W.ownsRow base 42 2 (.slice A pre.length c) pre.length (flat dgC pre)
 b : Below w0 w W
 z : w0 < W.heap.size
theorem AqI.keep {w0 base : Nat} {pre : List Dig} {A : OA} {c : Nat} {w W W' : World} (h : AqI w0 base pre A c w W) (hb : Below w0 w W') (h1 : W'.heap[w0]? = W.heap[w0]?) (h2 : ∀ g cur, base <= g -> W.heap[g]? = some (.cells cur 42 (0, 0)) -> W'.heap[g]? = W.heap[g]?) (hz : W.heap.size <= W'.heap.size) : AqI w0 base pre A c w W' := by
 refine ⟨h1.trans h.x, ⟨h.o.1, ?_⟩, hb, by have := h.z; omega⟩; rcases h.o.2 with h3 | ⟨g, cap, cur, h3, h4, h5, h6⟩
 . exact .inl h3
 . exact .inr ⟨g, cap, cur, h3, h4, (h2 g cur h4 h5).trans h5, h6⟩
def yf (s : Dig -> Bool) (N : Nat) (w : World) (e : Ending) (w' : World) : Prop :=
 ∃ A c xs, e = .returned (.slice A xs.length c) /\ KyS s N xs /\ w'.ownsRow w.heap.size 42 2 (.slice A xs.length c) xs.length (flat dgC xs) /\ Below w.heap.size w w'
theorem Ad (b Bm N : Nat) (s : Dig -> Bool) (w : World) (hM : Sd w b N s) (hc : w.heap[Bm]? = some (.cells #[.map (some b)] 63 (0, 0))) (hN : N <= 1000000000) :
  Calls Tryz.prog 120 #[.slice none 0 0, .func (.func 78) #[] #[.pointer (some ⟨Bm, 0, none⟩)]] w (yf s N w) := by
 refine (callsIn_wide (n := 6)).1 ?_; have hbl := hM.lt; have hBl := (Array.getElem?_eq_some_iff.1 hc).1; obtain ⟨W2, hW2⟩ : ∃ W2, w.alloc (.cells #[.slice none 0 0] 24) = W2 := ⟨_, rfl⟩
 have hb2 : Below w.heap.size w W2 := by rw [<- hW2]; exact (Below.refl _ w).alloc ai _
 have z2 : W2.heap.size = w.heap.size + 1 := by rw [<- hW2]; simp
 have k2 : W2.heap[w.heap.size]? = some (.cells #[.slice none 0 0] 24 (0, 0)) := by rw [<- hW2]; exact World.alloc_heap_new w _
 have HM2 := hM.below hb2 hbl; have HC2 := (hb2.block Bm hBl).trans hc; have hst := CB 5 (by omega) b Bm N (W2.heap.size + 2) s W2 HM2 HC2 (by omega); have hI0 : AqI w.heap.size (W2.heap.size + 3) [] none 0 w W2 := ⟨k2, World.ownsRow_nil _ _ _ _, hb2, by omega⟩
 have HW2 := ah hW2; clear hW2 hM hc k2 hb2 HM2 HC2; refine callsIn_of_wp_marks Tryz.func120 rfl trivial ?_ rfl; simp only [Tryz.ntmps120, List.size_toArray, List.length_cons, List.length_nil, Nat.reduceAdd, Nat.reduceSub, Array.replicate_succ, Array.replicate_zero, List.push_toArray, List.append_toArray, List.nil_append, List.cons_append]
 gi_wp2
 rw [HW2.out]; clear HW2; refine rT (α := Dig) (F := Fence.wide) (n := 6) rfl (by omega) (gf := 78) (lb := #[.pointer (some ⟨Bm, 0, none⟩)]) rfl trivial EN
  hst KeepR.trans (fun W l r o' hl hlr => uF W l r o' hlr (by omega) (by omega)) (fun A C h hA => uw h rfl hA) (Below.refl _ _) (fun _ => rfl)
  (fun pre W => ∃ A c, AqI w.heap.size (W2.heap.size + 3) pre A c w W)
  (fun _ _ _ => False)
  ?hI ?hIx ?hIS ⟨none, 0, hI0⟩
  (fun x bx W => W2.heap.size + 2 <= bx /\ Bk W bx 42 #[.int .u64 x.1, .int .u64 x.2])
  ?hAp (fun x bx => { tmps := #[.slice none 0 0, .func (.func 78) #[] #[.pointer (some ⟨Bm, 0, none⟩)], .pointer (some ⟨w.heap.size, 0, none⟩), undef, .slice none 0 0, .pointer (some ⟨bx, 0, none⟩), .func (.func 78) #[] #[.pointer (some ⟨Bm, 0, none⟩)], az x, undef, undef, undef, undef, undef], defers := [] }) ?assign ?body ?done ?stop
 case hAp =>
  rintro x b W l r o hl ⟨hb, hw⟩; refine ⟨hb, (World.putObj_heap_other (fun e => ?_)).trans hw⟩; subst e; have : W.heap[b]? = _ := hw; rw [hl] at this; cases this
 case hI =>
  rintro pre A1 C row ⟨A, c, h⟩ hg hr; refine ⟨A, c, h.keep (h.b.grown hg (by have := h.z; omega) (fun k e => by have := (hr _ e).1; omega)) (hg.block _ h.z (fun e => by have := (hr _ e.symm).1; omega)) (fun g cur hg1 hg2 => hg.block g (Array.getElem?_eq_some_iff.1 hg2).1 (fun e => ?_)) hg.size⟩; obtain ⟨_, o, ho, hc⟩ := hr _ e.symm; rw [hg2] at ho; cases ho; cases hc
 case hIx => rintro c pre A1 C row hf _ _; exact hf
 case hIS =>
  rintro pre A1 C ⟨A, c, h⟩ hs; refine ⟨A, c, h.keep (hs.below h.b (by omega) (by have := h.z; omega)) (hs.block _ h.z (.inl (by omega))) (fun g cur hg1 hg2 => hs.block g (Array.getElem?_eq_some_iff.1 hg2).1 (.inr ⟨by omega, fun hh => ?_⟩)) hs.size⟩; rw [hg2] at hh; exact absurd (show (42 : Nat) = 132 from hh) (by decide)
 case assign =>
  rintro l pre x W K hWz ⟨A, c, h⟩ hK; have HKK := ah hK; have HI := ah h; clear hK h hI0 hst; obtain ⟨x1, x2⟩ := x; simp only [az]
  gi_wp2
  have hb : Below W.heap.size W (W.alloc (.cells #[.int .u64 x1, .int .u64 x2] 42)) := (Below.refl _ W).alloc ai _; exact HKK.out W.heap.size _ ⟨hb.block _ (by omega), hb.block _ (by omega)⟩ ⟨hb.size, fun k hk _ => hb.block k hk⟩ ⟨A, c, HI.out.keep (HI.out.b.trans (hb.mono (by omega))) (hb.block _ HI.out.z) (fun g cur _ hg2 => hb.block g (Array.getElem?_eq_some_iff.1 hg2).1) hb.size⟩ ⟨hWz, Bk.new W _ _⟩
 case body =>
  rintro l pre x bx W ht hWz ⟨A, c, h⟩ ⟨hbz, hk⟩; obtain ⟨x1, x2⟩ := x; simp only at hk; have hpl := ht.few; rw [List.length_append] at hpl; simp only [List.length_cons, List.length_nil] at hpl; have c0 := cell_of_one h.x; have f0 := free_of_one h.x; obtain ⟨y0, y1, _, _⟩ := hk.two; have hbl2 : bx < W.heap.size := hk.lt; have HI := ah h; obtain ⟨i0, hi, hz0, hz1', hz2'⟩ := info_parts ik; have Hi := ah hi; have Hz0 := ah hz0; have Hz1 := ah hz1'; have Hz2 := ah hz2'; clear h hk hI0 hst ht hi hz0 hz1' hz2'
  gi_wp2_with (gi_at_builtin; refine aI ?_)
  refine aC ?_; refine mY (base := W2.heap.size + 3) (size := 2) rfl (.tmp 8) (.tmp 10) 24 rfl 42 i0 _ 16 Tryz.underlying24 Hi.out Hz0.out Hz1.out Hz2.out rfl (by decide) (.slice A pre.length c) pre.length (flat dgC pre) rfl ?own (W.heap.size + 1) _ 1 _ (flat dgC [(x1, x2)]) rfl ?nw (fI _) ?l1 ?l2 ?l3 ?_
  case own => exact fE HI.out.o ((Below.refl _ _).alloc ai _)
  case nw =>
   have := Sl.of_bk (n := 1) (size := 2) (Bk.new W 42 #[.int .u64 x1, .int .u64 x2]) rfl; rw [World.size_alloc] at this; exact this
  case l1 => unfold maxLen; omega
  case l2 => omega
  case l3 => simp; omega
  intro A4 c4 w4 ho4 hg4 hc41 hc42; rw [<- bT] at ho4; have HO4 := ah ho4; have HROW : Hid (∀ g, (Value.slice A pre.length c).ownBlock = some g -> W2.heap.size + 3 <= g /\ ∃ cur, W.heap[g]? = some (.cells cur 42 (0, 0))) := fun g hgg => by
   rcases HI.out.o.2 with ⟨hv, _⟩ | ⟨g', cap, cur, hv, hb, hh, _⟩
   . rw [hv] at hgg; cases hgg
   . rw [hv] at hgg
     have hgb : g' = g := by simpa [Value.ownBlock] using hgg
     subst hgb; exact ⟨hb, cur, hh⟩
  have hzW := HI.out.z; have HX4 : Hid (w4.heap[w.heap.size]? = some (.cells #[.slice A pre.length c] 24 (0, 0))) := nU ((Below.heap_alloc W _ _ hzW).trans HI.out.x) hg4 (fun e => by have := (HROW.out _ e.symm).1; omega); have HBW : Hid (∀ j, j < W.heap.size -> (j < W2.heap.size + 3 ∨ ∀ cur, W.heap[j]? ≠ some (.cells cur 42 (0, 0))) -> w4.heap[j]? = W.heap[j]?) := fun j hj hn => (hg4.block j (by simp; omega) (fun e => by
   obtain ⟨h1, cur, h2⟩ := HROW.out _ e.symm; rcases hn with hn | hn
   . omega
   . exact hn cur h2)).trans (Below.heap_alloc W _ j hj)
  have HB4 : Hid (Below w.heap.size w w4) := (HI.out.b.alloc (by omega) _).grown hg4 (by simp; omega) (fun k hk => by have := (HROW.out _ hk).1; omega); have z4 : W.heap.size <= w4.heap.size := by have := hg4.size; simp at this; omega
  have c4' := cell_of_one HX4.out; have f4' := free_of_one HX4.out; clear ho4 hg4 c0 f0
  gi_wp2
  have hset : ∀ j, j ≠ w.heap.size -> (w4.setCell ⟨w.heap.size, 0, none⟩ (.slice A4 (pre.length + 1) c4)).heap[j]? = w4.heap[j]? := fun j hj => Below.heap_setCell w4 ⟨w.heap.size, 0, none⟩ _ j hj; refine ⟨⟨(hset _ (by omega)).trans (HBW.out _ (by omega) (.inl (by omega))), (hset _ (by omega)).trans (HBW.out _ (by omega) (.inl (by omega)))⟩, ⟨by simpa using z4, fun k hk hc => (hset k ?_).trans (HBW.out k hk ?_)⟩, A4, c4, ?_, ?_, HB4.out.setCell (p := ⟨w.heap.size, 0, none⟩) ai _, by simp; omega⟩
  . rintro rfl
    rcases hc with hc | hc | hc
    . omega
    . rw [HI.out.x] at hc
      exact absurd (show (24 : Nat) = 132 from hc) (by decide)
    . omega
  . rcases hc with hc | hc | hc
    . exact .inl (by omega)
    . exact .inr fun cur e => by
        rw [e] at hc; exact absurd (show (42 : Nat) = 132 from hc) (by decide)
    . exact .inl (by omega)
  . rw [List.length_append]; exact one_setCell HX4.out
  . rw [List.length_append]
    exact kK HO4.out (show Bk w4 w.heap.size 24 #[.slice A pre.length c] from HX4.out) (by decide) 0 _
 case done =>
  rintro D xs W hD hS ⟨A, c, h⟩ hK; have c0 := cell_of_one h.x; have HI := ah h; have HS := ah hS; have HK := ah hK; clear h hS hK hI0 hst
  gi_wp2
  refine ⟨by simp, .inl ⟨_, _, rfl, run_takeDeferred HK.out, ?_⟩⟩; refine ⟨_, results_tmp rfl _ _ _, A, c, xs, rfl, HS.out, ?_, HI.out.b.grown (grownBy_putObj' _ _ _) (by have := HI.out.z; omega) (fun k e => by cases e; omega)⟩; refine fF (HI.out.o.kept (grownBy_putObj' _ _ _) ?_) (by omega); rcases HI.out.o.2 with ⟨hv, _⟩ | ⟨g', cap, cur, hv, hb, hh, _⟩
  . rw [hv]; exact .inl rfl
  . rw [hv]
    refine .inr fun e => ?_; have : g' = D := by simpa [Value.ownBlock] using e
    subst this; rw [HK.out] at hh; cases hh
 case stop => rintro D c pre W hD hS hf hK; exact hf.elim
end
section
open Go.Maps
theorem zz (b Bm N : Nat) (s : Dig -> Bool) (w : World) (hM : Sd w b N s) (hc : w.heap[Bm]? = some (.cells #[.map (some b)] 63 (0, 0))) (hN : N <= 1000000000) :
  Calls Tryz.prog 77 #[.func (.func 78) #[] #[.pointer (some ⟨Bm, 0, none⟩)]] w (yf s N w) := by
 have HA := ah (Ad b Bm N s w hM hc hN); clear hM hc
 go_enter Tryz.func77, Tryz.ntmps77
 go_wp2_with (go_at_call 120; refine HA.out.mono ?_; rintro e w1 ⟨A, c, xs, rfl, h⟩; have HH := ah h; clear h)
 go_ret
 exact ⟨A, c, xs, rfl, HH.out⟩
def SrE (s : Dig -> Bool) (N : Nat) (w : World) (e : Ending) (w' : World) : Prop :=
 ∃ A c l, e = .returned (.slice A l.length c) /\ AscD l /\ (∀ d, d ∈ l ↔ bG d /\ s d = true) /\ l.length <= N /\ w'.ownsRow w.heap.size 42 2 (.slice A l.length c) l.length (flat dgC l) /\ Below w.heap.size w w'
theorem yP (b Bm N : Nat) (s : Dig -> Bool) (w : World) (hM : Sd w b N s) (hc : w.heap[Bm]? = some (.cells #[.map (some b)] 63 (0, 0))) (hN : N <= 1000000000) :
  Calls Tryz.prog 51 #[.func (.func 78) #[] #[.pointer (some ⟨Bm, 0, none⟩)], .func (.func 35) #[] #[]] w (SrE s N w) := by
 have HA := ah (zz b Bm N s w hM hc hN); clear hM hc
 go_enter Tryz.func51, Tryz.ntmps51
 go_wp2_with fail; refine HA.out.mono ?_; rintro e w1 ⟨A, c, xs, rfl, hS, ho, hb⟩; have HS := ah hS; have HO := ah ho; have HB := ah hb; have HC := ah (zS w.heap.size xs.length c A xs w1 ho (by have := hS.1.few; omega)); clear hS ho hb HA; go_wp2_with fail; refine HC.out.mono ?_; rintro e w2 ⟨rfl, us, hp, hs, ho2, hg⟩; have HA2 : Hid (AscD us) := hs.asc ((hp.nodup_iff).2 HS.out.1.nod); have HM2 : Hid (∀ d, d ∈ us ↔ bG d /\ s d = true) := fun d => by
  rw [hp.mem_iff]; exact ⟨HS.out.1.mem d, fun h => HS.out.2 d h.1 h.2⟩
 have HL : Hid (xs.length = us.length) := hp.length_eq.symm; have HF : Hid (us.length <= N) := by show _ <= _; rw [<- HL.out]; exact HS.out.1.few
 have HO2 := ah ho2; have HB2 : Hid (Below w.heap.size w w2) := HB.out.grown hg HB.out.size (fun k e => by
  rcases HO.out.2 with ⟨hv, _⟩ | ⟨g', cap, cur, hv, hb, _⟩
  . rw [hv] at e; cases e
  . rw [hv] at e
    have : g' = k := by simpa [Value.ownBlock] using e
    omega)
 clear hp hs ho2 hg; go_wp2_with fail; go_ret
 exact ⟨A, c, us, by rw [<- HL.out]; rfl, HA2.out, HM2.out, HF.out, by rw [<- HL.out]; exact HO2.out, HB2.out⟩
theorem sI (b N : Nat) (s : Dig -> Bool) (w : World) (hM : Sd w b N s) (hN : N <= 1000000000) : Calls Tryz.prog 28 #[.map (some b)] w (SrE s N w) := by
 obtain ⟨W, hW⟩ : ∃ W, w.alloc (.cells #[.map (some b)] 63) = W := ⟨_, rfl⟩
 have hb : Below w.heap.size w W := by rw [<- hW]; exact (Below.refl _ w).alloc ai _
 have HA := ah (yP b w.heap.size N s W (hM.below hb hM.lt) (by rw [<- hW]; exact World.alloc_heap_new w _) hN); have HB := ah hb; have HK := ah (BQ b w); have HW := ah hW; clear hM hb hW
 go_enter Tryz.func28, Tryz.ntmps28
 go_wp2_with fail; refine HK.out.mono ?_; rintro e w1 ⟨rfl, rfl⟩; rw [HW.out]; go_wp2_with fail; refine HA.out.mono ?_; rintro e w2 ⟨A, c, l, rfl, h1, h2, h3, h4, h5⟩; have H1 := ah h1; have H2 := ah h2; have H3 := ah h3; have H4 := ah (fF h4 HB.out.size); have H5 : Hid (Below w.heap.size w w2) := HB.out.trans (h5.mono HB.out.size); clear h1 h2 h3 h4 h5; go_wp2_with fail; go_ret
 exact ⟨A, c, l, rfl, H1.out, H2.out, H3.out, H4.out, H5.out⟩
end
section
variable {P : Program} {Q : Exit -> Act -> World -> Prop}
theorem zm {id : Nat} {l : List Oper} {a0 : Act} {w0 : World} (n : Nat) (ds : List Tmp) (hm : P.follows .mixedOrders = true) (hB : gy l n = true) (hds : dstsOf l n = ds)
  (I : (Nat -> Bool) -> List Value -> World -> Prop) (h0 : ∀ vs : List Value, vs.length = n -> I (fun _ => false) vs w0.drew)
  (hstep : ∀ (dn : Nat -> Bool) (i : Nat) (o : Oper) (vs : List Value) (w : World), i < n -> dn i = false -> l[i]? = some o -> vs.length = n -> I dn vs w -> (∀ e ∈ o.after, Region.binds .any e = true -> e.on < n -> dn e.on = true) ->
    il P l.toArray o (aG a0 (ds.zip vs)) w fun v w' => I (fun j => decide (j = i) || dn j) (vs.set i v) w')
  (htail : ∀ (vs : List Value) (w : World), vs.length = n -> I (fun j => decide (j < n)) vs w -> wpList P l.toArray Q (l.drop n) (aG a0 (ds.zip vs)) w) :
  (Code.region id l.toArray true).wp P Q a0 w0 := by
 subst hds; simp only [gy, Bool.and_eq_true, decide_eq_true_eq, List.all_eq_true] at hB; obtain ⟨⟨⟨⟨⟨⟨hn, hs⟩, hc⟩, hseq⟩, hdst⟩, hnd⟩, hback⟩ := hB; have hdl : (dstsOf l n).length = n := by simp [dstsOf]; omega
 refine wp_region_any hm ?_
 -- the state: which operations have been carried out, what the temporaries hold
 have main : ∀ (f : Nat) (listed : Array Bool) (vs : List Value) (w : World), HeadInv .any l.toArray n listed -> vs.length = n -> I (fun j => listed.getD j false) vs w ->
   (listed.toList.take n).count false = f ->
   wpAny P .any l.toArray Q (f + (l.length - n)) listed (aG a0 ((dstsOf l n).zip vs)) w := by
  intro f
  induction f with
  | zero =>
    intro listed vs w inv hv hw hcnt; have hall : ∀ i, i < n -> listed.getD i false = true := by
     intro i hi; have hsz : i < listed.size := by rw [inv.size]; simp; omega
     have hmem : listed.toList[i]? = some listed[i] := by simp [hsz]
     have hne : listed[i] ≠ false := by
      intro e; have hm2 : false ∈ listed.toList.take n := by
       rw [List.mem_take_iff_getElem]; exact ⟨i, by simp; omega, by simpa using e⟩
      have := List.count_pos_iff.2 hm2; omega
     simp [hsz]; simpa using hne
    have hfull : listed = bS l n := by
     apply Array.ext
     . rw [inv.size]; simp [bS]
     . intro i h1 h2
       have hil : i < l.length := by rw [inv.size] at h1; simpa using h1
       simp only [bS, List.getElem_toArray, List.getElem_map, List.getElem_range]; by_cases hi : i < n
       . have := hall i hi; simp [h1] at this; simp [this, hi]
       . have := inv.tail i (by omega) (by simpa using hil); simp [h1] at this; simp [this, hi]
    subst hfull; have hfl : (fun j => (bS l n).getD j false) = fun j => decide (j < n) := by
     funext j
     by_cases hj : j < n
     . rw [hall j hj, decide_eq_true hj]
     . rw [decide_eq_false hj]
       by_cases hj2 : j < l.length
       . simp [bS, hj2, hj]
       . simp [bS, hj2]
    rw [hfl] at hw; have hw' := htail vs w hv hw; have := wpAny_of_seq (md := .any) (Q' := Q) (l.drop n) n (bS l n) _ w (fun j => by simp [List.getElem?_drop]) (by rw [List.length_drop]; exact hseq) hw'; rw [List.length_drop] at this
    simpa using this
  | succ f ih =>
    intro listed vs w inv hv hw hcnt; have hun : ∃ i, i < n /\ listed.getD i true = false := by
     have : 0 < (listed.toList.take n).count false := by omega
     have hm2 := List.count_pos_iff.1 this; rw [List.mem_take_iff_getElem] at hm2; obtain ⟨i, hi, hv2⟩ := hm2; refine ⟨i, by simp at hi; omega, ?_⟩; have hsz : i < listed.size := by simp at hi; omega
     rw [Array.getD_eq_getD_getElem?, Array.getElem?_eq_getElem hsz]; simpa using hv2
    rw [show f + 1 + (l.length - n) = (f + (l.length - n)) + 1 by omega]; obtain ⟨i0, hi0, hu0⟩ := hun; have hready_lt : ∀ i ∈ Region.ready .any l.toArray listed, i < n := by
     intro i hi; rcases Nat.lt_or_ge i n with h | h
     . exact h
     . exact absurd hi (tail_waits hs hc (by simpa using hn) inv _ i0 rfl hi0 hu0 i h)
    have hne : Region.ready .any l.toArray listed ≠ [] := by
     -- the first operation that is not yet carried out and whose own conditions are all met: by the least such index
     intro hnil; obtain ⟨m, hm1, hm2⟩ : ∃ m, (m < n /\ listed.getD m true = false) /\ ∀ k, k < m -> ¬ (k < n /\ listed.getD k true = false) := by
      have : ∀ m, (m < n /\ listed.getD m true = false) -> ∃ m, (m < n /\ listed.getD m true = false) /\ ∀ k, k < m -> ¬ (k < n /\ listed.getD k true = false) := by
       intro m
       induction m using Nat.strongRecOn with
       | _ m ihm =>
         intro h; by_cases hex : ∃ k, k < m /\ (k < n /\ listed.getD k true = false)
         . obtain ⟨k, hk, hk2⟩ := hex; exact ihm k hk hk2
         . exact ⟨m, h, fun k hk hk2 => hex ⟨k, hk, hk2⟩⟩
      exact this i0 ⟨hi0, hu0⟩
     have hml : m < l.length := by omega
     have hmo : l[m]? = some l[m] := List.getElem?_eq_getElem hml; have hb1 := hback m (List.mem_range.2 hm1.1); rw [hmo] at hb1; simp only at hb1; have hmr : m ∈ Region.ready .any l.toArray listed := by
      refine mem_ready.2 ⟨hm1.2, l[m], by simp, fun e he _ => ?_⟩; have hlt : e.on < m := by
       have := (Array.all_eq_true_iff_forall_mem.1 hb1) e he
       simpa using this
      have hnot := hm2 e.on hlt; cases hx : listed.getD e.on true with
      | true =>
        have hsz : e.on < listed.size := by rw [inv.size]; simp; omega
        simp [hsz] at hx ⊢; exact hx
      | false => exact absurd ⟨by omega, hx⟩ hnot
     rw [hnil] at hmr; cases hmr
    refine ⟨fun h => absurd h hne, fun i hi => ?_⟩; have hin := hready_lt i hi; obtain ⟨hlf, o, ho, hdeps⟩ := mem_ready.1 hi; have ho' : l[i]? = some o := by simpa using ho
    have hmem : o ∈ l.take n := List.mem_take_iff_getElem.2 ⟨i, (by have := (List.getElem?_eq_some_iff.1 ho').1; omega), (List.getElem?_eq_some_iff.1 ho').2⟩; have hdo := hdst o hmem; obtain ⟨d, hd⟩ := Option.isSome_iff_exists.1 hdo; have hdi : (dstsOf l n)[i]? = some d := by
     simp [dstsOf, hin, ho', hd]
    have hlf' : listed.getD i false = false := getD_both hlf; have hgive := hstep (fun j => listed.getD j false) i o vs w hin hlf' ho' hv hw (fun e he hb _ => hdeps e he hb); have hgo : ∀ v w', I (fun j => decide (j = i) || listed.getD j false) (vs.set i v) w' -> wpAny P .any l.toArray Q (f + (l.length - n)) (listed.setIfInBounds i true) ((aG a0 ((dstsOf l n).zip vs)).put o.dst v) w' := ?hgo
    case hgo =>
     intro v w' hvw; rw [hd, <- jq a0 (dstsOf l n) vs i d v hnd (by rw [hdl, hv]) hdi]; have hsz : i < listed.size := by rw [inv.size]; simp; omega
     have hli : listed.toList[i]? = some false := by
      simp [hsz] at hlf ⊢; exact hlf
     have hfn : (fun j => (listed.setIfInBounds i true).getD j false) = fun j => decide (j = i) || listed.getD j false := by
      funext j
      by_cases e : j = i
      . subst e; simp [hsz]
      . rw [getD_set_ne false (fun h => e h.symm), decide_eq_false e, Bool.false_or]
     refine ih (listed.setIfInBounds i true) (vs.set i v) w' (inv.set hi hin) (by simpa using hv) (by rw [hfn]; exact hvw) ?_; have : (listed.setIfInBounds i true).toList.take n = (listed.toList.take n).set i true := by
      rw [Array.toList_setIfInBounds, List.take_set]
     rw [this]; have h2 := kF (l := listed.toList.take n) (i := i) (by rw [List.getElem?_take, if_pos hin]; exact hli); omega
    unfold wpOp; simp only [ho]; rcases hgive with ⟨hw1, hw2⟩ | ⟨hw1, hw2⟩
    . rw [if_pos hw1]
      exact .inl (hw2 _ _ hgo)
    . rw [if_neg (by rw [hw1]; simp)]
      exact hgo undef w hw2
 have inv0 : HeadInv .any l.toArray n (Array.replicate l.toArray.size false) :=
  ⟨by simp, fun j oj _ hl => (by rw [getD_replicate_false] at hl; cases hl), fun t _ ht => getD_in (by simpa using ht) (getD_replicate_false _ _)⟩
 have hdl2 : ((dstsOf l n).map fun d => a0.tmps.getD d undef).length = n := by simpa using hdl
 have hfr : (fun j => (Array.replicate l.toArray.size false).getD j false) = fun _ => false := by
  funext j; exact getD_replicate_false _ _
 have := main n (Array.replicate l.toArray.size false) ((dstsOf l n).map fun d => a0.tmps.getD d undef) _ inv0 hdl2 (by rw [hfr]; exact h0 _ hdl2) (by simp; omega); rw [jm, show n + (l.length - n) = l.toArray.size by simp; omega] at this; exact this
end
section
open Go.Maps
theorem jy {o : Ob} (h : OkO o) : ∀ e ∈ o.ents, dM e := by
 cases h.f with
 | blob _ e _ _ => rw [e]; intro x hx; cases hx
 | tree _ _ _ e => exact e.all
 | commit _ _ e _ => rw [e]; intro x hx; cases hx
theorem xu {p : List Itm} {hs : List Dig} {stop : Dig -> Prop} {dep : Int} {pre : Bytes} (hp : PlOk p) {d : Dig} {q : Bytes} (h : Plc p hs stop dep pre d q) : WfD d := by
 cases h with
 | root _ g _ => exact pQ (mh hp g)
 | sub _ g _ m _ _ => exact (jy (mh hp g) _ m).dg
theorem DK {p : List Itm} {pre : ByteArray} {s : WkS} {x : Pla} (h : (aL p s x.1 2).2 = none) : bV p pre s x = (aL p s x.1 2).1 := by
 unfold bV; cases hg : aL p s x.1 2 with
 | mk s1 r => rw [hg] at h; simp only at h; subst h; rfl
theorem D5 {p : List Itm} {pre : ByteArray} {s : WkS} {x : Pla} {o : Ob} (h : (aL p s x.1 2).2 = some o) : bV p pre s x = o.ents.foldl (bz p pre x.2) (aL p s x.1 2).1 := by
 unfold bV; cases hg : aL p s x.1 2 with
 | mk s1 r => rw [hg] at h; simp only at h; subst h; rfl
section
variable {p : List Itm} {hs : List Dig} {stop : Dig -> Prop} {dep : Int} {pre : ByteArray} {s : WkS}
theorem AX (hp : PlOk p) (h : Snd p hs stop dep pre s) {l : List Pla} {x : Pla} (hl : s.op = l ++ [x]) {o : Ob} (hg : (aL p { s with op := l } x.1 2).2 = some o) (j : Nat) :
  ((o.ents.take j).foldl (bz p pre x.2) (aL p { s with op := l } x.1 2).1).op.length <= vS p pre s := by
 have hS : Snd p hs stop dep pre { s with op := l } := h.pop (l := l) (fun y hy => by rw [hl]; exact List.mem_append_left _ hy); obtain ⟨q', hd, hq⟩ := h.me x (h.op x (by rw [hl]; simp)); have h1 : Snd p hs stop dep pre (aL p { s with op := l } x.1 2).1 := hS.get (.dir hd); obtain ⟨ho, hk⟩ := iC (s' := (aL p { s with op := l } x.1 2).1) (Prod.ext rfl hg); have h2 := oG hp hd hq ho hk (o.ents.take j) _ (fun e he => List.mem_of_mem_take he) h1; have h3 : Msr p pre { s with op := l } (aL p { s with op := l } x.1 2).1 := .get _ _ _; have h4 := h3.trans h2; have h5 := lL (p := p) (pre := pre) ((o.ents.take j).foldl (bz p pre x.2) (aL p { s with op := l } x.1 2).1); have h6 := lL (p := p) (pre := pre) s; have h7 : s.op.length = l.length + 1 := by rw [hl]; simp
 have h8 : ((o.ents.take j).foldl (bz p pre x.2) (aL p { s with op := l } x.1 2).1).op.length + fQ p pre s <= l.length + fQ p pre ((o.ents.take j).foldl (bz p pre x.2) (aL p { s with op := l } x.1 2).1) := h4; unfold vS; omega
end
theorem WkR.bk {b i : Nat} {x y : World} {cs : Array Value} (h : WkR b x y) (hk : Bk x i 132 cs) (hn : df x b ≠ some i) : Bk y i 132 cs :=
 (h.row i hk.lt (by rw [show x.heap[i]? = _ from hk]; exact rfl) hn).trans hk
theorem Sl.pla {w : World} {B n k : Nat} {A : OA} {l : List Pla} (h : Sl w B 3 A n (flat eU l)) (hk : k < n) :
  ∃ b off x, A = some ⟨b, off, none⟩ /\ b < B /\ l[k]? = some x /\ w.cell? ⟨b, off + k * 3, none⟩ = some (.int .u64 x.1.1) /\ w.cell? ⟨b, off + k * 3 + 1, none⟩ = some (.int .u64 x.1.2) /\ w.cell? ⟨b, off + k * 3 + 2, none⟩ = some (.string x.2) := by
 obtain ⟨b, off, x, e, hb, hx, hc⟩ := h.at_ uQ (by omega) hk; exact ⟨b, off, x, e, hb, hx, hc 0 _ rfl, hc 1 _ rfl, hc 2 _ rfl⟩
theorem WkM.popped {w : World} {base : Nat} {k : Wkb} {com : Dig -> Bool} {Nc N : Nat} {s : WkS} {l : List Pla} {oA : OA} {oc m : Nat} (h : WkM w base k com Nc N s) (hb : Bk w k.b 67 (wkC k oA s.op.length oc s.wr))
  (hq : Que w base 132 3 oA s.op.length oc (flat eU s.op)) (hl : l = s.op.take m) (hm : m <= s.op.length) : WkM (w.setCell ⟨k.b, 6, none⟩ (.slice oA m oc)) base k com Nc N { s with op := l } := by
 obtain ⟨a1, a2, a3, a4⟩ := h.apart; have hlen : l.length = m := by rw [hl, List.length_take]; omega
 have hc := hq.cut hm; rw [<- nK uQ, <- hl] at hc; refine ⟨⟨oA, oc, ?_, ?_, ?_, hq.le.2⟩, h.com.setc a1.symm, h.ne.setc a2.symm, h.ed.setc a3.symm, h.me.setc a4.symm⟩
 . have := hb.set 6 (.slice oA m oc)
   show Bk _ _ _ (wkC k oA l.length oc s.wr); rw [hlen]; unfold wkC at this ⊢; simpa using this
 . show Que _ _ _ _ _ l.length _ _
   rw [hlen]; exact hc.box hb (by decide) 6 _
 . show l.length <= oc
   rw [hlen]; exact hc.le.1
def WwE (base : Nat) (k : Wkb) (com : Dig -> Bool) (Nc N V : Nat) (p : List Itm) (hs : List Dig) (stop : Dig -> Prop) (dep : Int) (dn : Dig -> Prop) (w : World) (e : Ending) (w' : World) : Prop :=
 (∃ v, e = .returned v) /\ ∃ s' N', WkM w' base k com Nc N' s' /\ N' <= N + 300 * V /\ s'.op = [] /\ WkF base k w w' /\ WkI p hs stop dep k.pre com dn s'
theorem EI (base : Nat) (k : Wkb) (com : Dig -> Bool) (Nc N V : Nat) (s : WkS) (p : List Itm) (hs : List Dig) (stop : Dig -> Prop) (dep : Int) (dn : Dig -> Prop) (w : World) (hM : WkM w base k com Nc N s) (hD : WkD base k) (hp : Sl w base 3 k.pA k.pn (flat itC p)) (hbw : base <= w.heap.size) (hpo : PlOk p) (hpn : k.pn <= 1000000)
  (hI : WkI p hs stop dep k.pre com dn s) (hh : ∀ h ∈ hs, WfD h) (hV : vS p k.pre s <= V) (hV2 : V <= 1000000) (hN : N <= 100000000) (hpr : k.pre.size <= 100) :
  Calls Tryz.prog 50 #[.pointer (some ⟨k.b, 0, none⟩)] w (WwE base k com Nc N V p hs stop dep dn w) := by
 have HD := ah hD; have HPO := ah hpo; have HH := ah hh; have HP := ah hp; have HM := ah hM; have HI := ah hI; have HV := ah hV; have hl := hM.lt; have hap := hM.apart; clear hM hD hp hpo hI hh hV; obtain ⟨b, pA, pn, pc, pre, bc, bn, be, bm⟩ := k; simp only at hl hap HP hpn hpr HV ⊢; obtain ⟨hl0, hl1, hl2, hl3, hl4⟩ := hl; obtain ⟨i0, hi, hz0, hz1, hz2⟩ := info_parts wT; have Hi := ah hi; have Hz1 := ah hz1; clear hi hz0 hz1 hz2
 go_enter Tryz.func50, Tryz.ntmps50
 go_wp2_with fail
 go_loopg [] V (fun gk wr => ∃ (Ns : Nat) (s' : WkS), Hid (WkM wr base ⟨b, pA, pn, pc, pre, bc, bn, be, bm⟩ com Nc Ns s') /\ Hid (WkF base ⟨b, pA, pn, pc, pre, bc, bn, be, bm⟩ w wr) /\ Hid (WkI p hs stop dep pre com dn s') /\ Hid (vS p pre s' <= gk) /\ gk <= V /\ Ns + 300 * gk <= N + 300 * V)
 case atStart => exact ⟨N, s, HM.out, WkF.refl _ _ _, HI.out, HV.out, Nat.le_refl _, Nat.le_refl _⟩
 case round =>
  obtain ⟨Ns, s1, hM1, hF1, hI1, hVk, hgk, hNk⟩ := hrel; have HM1 := ah hM1.out; have HF1 := ah hF1.out; have HI1 := ah hI1.out; have HV1 := ah hVk.out; have zr : w.heap.size <= wr.heap.size := hF1.out.size; obtain ⟨oA, oc, hbx, hq, hoc, hocm⟩ := HM1.out.box; have HBX := ah hbx; have HQ := ah hq; have HBX0 := ah hbx; unfold wkC at HBX; simp only at HBX; obtain ⟨on, hon⟩ : ∃ on, s1.op.length = on := ⟨_, rfl⟩
  have HON := ah hon; rw [hon] at HBX HQ hoc; clear hM1 hF1 hI1 hVk hbx hq hon HM HI HV; have c6 := HBX.out.cell 6; simp at c6; cases on with
  | zero =>
    have HOP : Hid (s1.op = []) := List.eq_nil_of_length_eq_zero HON.out; go_wp2_with fail
    go_end0
    exact ⟨⟨_, rfl⟩, s1, Ns, HM1.out, by omega, HOP.out, HF1.out, HI1.out⟩
  | succ m =>
    obtain ⟨ob, off, x, rfl, hob, hx, y0, y1, y2⟩ := HQ.out.sl.pla (k := m) (Nat.lt_succ_self m); have HX := ah hx; obtain ⟨l, hl⟩ : ∃ l, s1.op.take m = l := ⟨_, rfl⟩
    have HSP : Hid (s1.op = l ++ [x]) := by
     show _ = _; rw [<- hl]; have := bA hx; rw [List.take_of_length_le (by rw [HON.out]; exact Nat.le_refl _)] at this; exact this
    have HL := ah hl; have hme := HI1.out.snd.op x (by rw [HSP.out]; simp); have hsh := (HI1.out.snd.short HPO.out hme).length_le; obtain ⟨q', hplc, _⟩ := HI1.out.snd.me x hme; have HXW : Hid (WfD x.1) := xu HPO.out hplc; have hxs : x.2.size <= 100 := by
     have e1 : (toL x.2).length = x.2.size := by unfold toL; simp
     have e2 : (toL pre).length = pre.size := by unfold toL; simp
     omega
    have HPL := ah (CG HPO.out HI1.out.snd HSP.out); have HGK : Hid (1 <= gk) := by show 1 <= gk; have := HPL.out; have := HV1.out; omega
    have HIP := ah (HI1.out.pop HSP.out); have HEB := ah (fun (o : Ob) (hg : (aL p { s1 with op := l } x.1 2).2 = some o) j => AX HPO.out HI1.out.snd HSP.out hg j); obtain ⟨⟨d1, d2⟩, q⟩ := x; simp only at HXW hxs y0 y1 y2 HEB; obtain ⟨W1, hW1⟩ : ∃ W, wr.alloc (.cells #[.int .u64 d1, .int .u64 d2, .string q] 132) = W := ⟨_, rfl⟩
    have HA1 : Hid (Bk W1 wr.heap.size 132 #[.int .u64 d1, .int .u64 d2, .string q]) := by rw [<- hW1]; exact Bk.new wr _ _
    have HB1 : Hid (Below wr.heap.size wr W1) := by rw [<- hW1]; exact (Below.refl _ wr).alloc ai _
    have HBX1 := ah (HBX.out.below HB1.out HBX.out.lt); have hbl : b < wr.heap.size := HBX.out.lt; obtain ⟨W2, hW2⟩ : ∃ W, W1.setCell ⟨b, 6, none⟩ (.slice (some ⟨ob, off, none⟩) m oc) = W := ⟨_, rfl⟩
    have HM2 : Hid (WkM W2 base ⟨b, pA, pn, pc, pre, bc, bn, be, bm⟩ com Nc Ns { s1 with op := l }) := by
     rw [<- hW2]; have h1 := HM1.out.below HB1.out; have h2 := HBX0.out.below HB1.out hbl; have h3 := HQ.out.bel HB1.out; rw [<- HON.out] at h3; exact h1.popped h2 h3 HL.out.symm (by rw [HON.out]; omega)
    have HA2 : Hid (Bk W2 wr.heap.size 132 #[.int .u64 d1, .int .u64 d2, .string q]) := by rw [<- hW2]; exact HA1.out.far (by show wr.heap.size ≠ b; omega) _
    have HF2 : Hid (WkF base ⟨b, pA, pn, pc, pre, bc, bn, be, bm⟩ w W2) := by rw [<- hW2]; exact (HF1.out.trans (WkF.of_below HB1.out)).trans (WkF.set HD.out.b 6 _)
    have hW2z : wr.heap.size < W2.heap.size := HA2.out.lt; have hob2 : ob < wr.heap.size := hob; have HOP2 : Hid (df W2 b ≠ some wr.heap.size) := by
     show _ ≠ _; have : df W2 b = some ob := by
      unfold df; rw [<- hW2, (HBX1.out.set 6 (.slice (some ⟨ob, off, none⟩) m oc)).cell]; simp [jY]
     rw [this]; intro e; have := Option.some.inj e; omega
    have tk := kG (P := Tryz.prog) 65 i0 Tryz.underlying65 Hi.out (some ⟨ob, off, none⟩) (m + 1) oc m (by omega); have hm63 : (m : Int) + 1 <= 9223372036854775807 := by have := hoc; unfold maxLen at hocm; omega
    have hw1 : IntKind.i64.wrap (((m + 1 : Nat) : Int) - 1) = (m : Int) := by rw [lW (by omega) (by omega)]; omega
    have hj0 : (0 : Int) < ((m + 1 : Nat) : Int) := by omega
    have hj1 : ¬ (m : Int) < 0 := by omega
    have hj2 : (m : Int) < ((m + 1 : Nat) : Int) := by omega
    have b6 := HBX1.out.cell 6; have f6 := HBX1.out.free 6; simp at b6; obtain ⟨a0, a1, a2⟩ := HA2.out.three; have hne1 : b ≠ wr.heap.size := by omega
    have hne2 : wr.heap.size ≠ b := by omega
    have HG := ah (ou base ⟨b, pA, pn, pc, pre, bc, bn, be, bm⟩ com Nc Ns { s1 with op := l } p (d1, d2) 2 W2 HM2.out HD.out (HP.out.below (HF2.out.below hbw) ai) (by omega) HPO.out hpn (by unfold maxLen; omega) HXW.out); unfold WgE at HG; simp only [az] at HG; clear hx hl hme hsh hplc HB1 HBX0; go_wp2_with fail; refine HG.out.mono ?_; rintro e w4 ⟨hq, hM4, hF4, hR4⟩; have HM4 := ah hM4; have HF4 : Hid (WkF base ⟨b, pA, pn, pc, pre, bc, bn, be, bm⟩ w w4) := HF2.out.trans hF4; have HR4 : Hid (WkR b W2 w4) := hR4; have z4 : W2.heap.size <= w4.heap.size := hF4.size; clear hM4 hF4 hR4 HG a0 a1 a2 b6 f6 tk hw1 c6 y0 y1 y2 hW1 hW2; rcases hq with ⟨o, sl, hg, hok, rfl, hob⟩ | ⟨hg, o, sl, rfl⟩
    case inr =>
     have HVS := ah (DK (pre := pre) (x := ((d1, d2), q)) hg); rw [HVS.out] at HIP HPL; clear hg HVS; simp only [obV, obC]; obtain ⟨W5, hW5⟩ : ∃ W, w4.alloc (.cells #[.int .i64 o.kind, .string o.data, .slice sl.eA sl.en sl.ec, .int .u64 o.tree.1, .int .u64 o.tree.2, .slice sl.pA sl.pn sl.pc, .string o.auth, .int .i64 o.time, .string o.msg] 75) = W := ⟨_, rfl⟩
     have HB5 : Hid (Below w4.heap.size w4 W5) := by rw [<- hW5]; exact (Below.refl _ w4).alloc ai _
     go_wp2_with fail
     go_roundg (gk - 1)
     case rel => exact ⟨Ns + 1, _, HM4.out.below HB5.out, HF4.out.trans (WkF.of_below HB5.out), HIP.out, by have := HPL.out; have := HV1.out; show _ <= _; omega, by omega, by have := HGK.out; omega⟩
     case measure => have := HGK.out; omega
    case inl =>
     have HVS := ah (D5 (pre := pre) (x := ((d1, d2), q)) hg); have HEBO := ah (HEB.out o hg); rw [HVS.out] at HIP HPL; have HEO := ah (jy hok); have hen200 := wC hok; obtain ⟨s2, hs2⟩ : ∃ s2, (aL p { s1 with op := l } (d1, d2) 2).1 = s2 := ⟨_, rfl⟩
     rw [hs2] at HIP HPL HM4 HEBO; clear hg hok HVS HEB hs2; obtain ⟨kd, dat, ents, ⟨t1, t2⟩, pars, auth, time, msg⟩ := o; obtain ⟨eA, en, ec, pA2, pn2, pc2⟩ := sl; simp only at HIP HPL HEO HEBO hen200; simp only [obV, obC]; obtain ⟨W5, hW5⟩ : ∃ W, w4.alloc (.cells #[.int .i64 kd, .string dat, .slice eA en ec, .int .u64 t1, .int .u64 t2, .slice pA2 pn2 pc2, .string auth, .int .i64 time, .string msg] 75) = W := ⟨_, rfl⟩
     have HT5 : Hid (Bk W5 w4.heap.size 75 #[.int .i64 kd, .string dat, .slice eA en ec, .int .u64 t1, .int .u64 t2, .slice pA2 pn2 pc2, .string auth, .int .i64 time, .string msg]) := by rw [<- hW5]; exact Bk.new w4 _ _
     have HB5 : Hid (Below w4.heap.size w4 W5) := by rw [<- hW5]; exact (Below.refl _ w4).alloc ai _
     have HM5 := ah (HM4.out.below HB5.out); have HF5 : Hid (WkF base ⟨b, pA, pn, pc, pre, bc, bn, be, bm⟩ w W5) := HF4.out.trans (WkF.of_below HB5.out); have HR5 : Hid (WkR b W2 W5) := HR4.out.trans (WkR.of_below HB5.out (by omega)); have HO5 := ah (hob.bel HB5.out); have HEL := ah hob.m.elen; have z5 : w4.heap.size < W5.heap.size := HT5.out.lt; simp only at HEL; have hen63 : en <= 200 := by rw [<- HEL.out]; exact hen200
     obtain ⟨g0, g1, g2, g3, g4, g5, g6, g7, g8⟩ := HT5.out.nine; clear hob HM4 HF4 HR4 HB5; obtain ⟨wo, hwo⟩ : ∃ wo, wo = wr := ⟨_, rfl⟩
     subst hwo; obtain ⟨gk0, hgk0⟩ : ∃ g, g = gk := ⟨_, rfl⟩
     subst hgk0; go_wp2_with fail; clear hW5
     go_loopw [49] (fun i wr => ∃ (j Nj : Nat), j <= en /\ i = .int .i64 (j : Int) /\ Hid (WkM wr base ⟨b, pA, pn, pc, pre, bc, bn, be, bm⟩ com Nc Nj ((ents.take j).foldl (bz p pre q) s2)) /\ Hid (WkF base ⟨b, pA, pn, pc, pre, bc, bn, be, bm⟩ W5 wr) /\ Hid (WkR b W2 wr) /\ Nj <= Ns + 1 + j) (fun i _ => en - (intOf i).toNat)
     case atStart => exact ⟨0, Ns + 1, Nat.zero_le _, rfl, HM5.out, WkF.refl _ _ _, HR5.out, by omega⟩
     case round =>
      obtain ⟨j, Nj, hj, rfl, hMj, hFj, hRj, hNj⟩ := hrel; have HMj := ah hMj.out; have HFj := ah hFj.out; have HRj := ah hRj.out; have zj : W5.heap.size <= wr.heap.size := hFj.out.size; clear hMj hFj hRj g0 g1 g2 g3 g4 g5 g6 g7 g8; have HAj := ah (HRj.out.bk HA2.out HOP2.out); have HOj := ah (HO5.out.wkf HFj.out (by show b < _; omega) (by show bn < _; omega) (by show be < _; omega) (by show bm < _; omega)); by_cases hlt2 : j < en
      . obtain ⟨bb, off2, x, hAx, hbB, hx, y0, y1, y2, y3⟩ := HOj.out.m.e.en hlt2
        simp only at hAx hx; subst hAx; have hlz : (j : Int) < (en : Int) := by omega
        have HXO := ah (HEO.out x (List.mem_of_getElem? hx)); have HTK := ah (bA hx); have hns := dw HXO.out.nm; clear hx; obtain ⟨nm, dir, ⟨x1, x2⟩⟩ := x; simp only at y0 y1 y2 y3 hns HXO; have HFO : Hid ((ents.take (j + 1)).foldl (bz p pre q) s2 = bz p pre q ((ents.take j).foldl (bz p pre q) s2) ⟨nm, dir, (x1, x2)⟩) := by
         show _ = _; rw [HTK.out, List.foldl_append]; rfl
        have hbo := HEBO.out j; have HVV := HV1.out; have HGK1 := HGK.out; obtain ⟨sj, hsj⟩ : ∃ sj, (ents.take j).foldl (bz p pre q) s2 = sj := ⟨_, rfl⟩
        rw [hsj] at HFO HMj hbo; obtain ⟨We, hWe⟩ : ∃ W, wr.alloc (.cells #[.string nm, .bool dir, .int .u64 x1, .int .u64 x2] 111) = W := ⟨_, rfl⟩
        have HKe : Hid (Bk We wr.heap.size 111 #[.string nm, .bool dir, .int .u64 x1, .int .u64 x2]) := by rw [<- hWe]; exact Bk.new wr _ _
        have HBe : Hid (Below wr.heap.size wr We) := by rw [<- hWe]; exact (Below.refl _ wr).alloc ai _
        have HMe := ah (HMj.out.below HBe.out); have HFe : Hid (WkF base ⟨b, pA, pn, pc, pre, bc, bn, be, bm⟩ W5 We) := HFj.out.trans (WkF.of_below HBe.out); have HRe : Hid (WkR b W2 We) := HRj.out.trans (WkR.of_below HBe.out HMj.out.lt.1); have HAe := ah (HAj.out.below HBe.out HAj.out.lt); have ze : wr.heap.size < We.heap.size := HKe.out.lt; have hFW : WkF base ⟨b, pA, pn, pc, pre, bc, bn, be, bm⟩ w We := HF5.out.trans HFe.out; obtain ⟨e0, e1, e2, e3⟩ := HKe.out.four; obtain ⟨a0, a1, a2⟩ := HAe.out.three; have hap1 : ¬ (9223372036854775807 < q.size + nm.size) := by omega
        obtain ⟨pt, hpt⟩ : ∃ pt, q ++ nm = pt := ⟨_, rfl⟩
        have hps : pt.size = q.size + nm.size := by rw [<- hpt]; exact ByteArray.size_append
        have HPT := ah hpt; have HPe := ah (HP.out.below (hFW.below hbw) ai); clear hsj HMj HFj HRj HBe hFW; cases dir with
        | true =>
          have HE : Hid (bz p pre q sj ⟨nm, true, (x1, x2)⟩ = bH pre sj (x1, x2) (pt ++ ⟨#[47]⟩)) := by
           show _ = _; unfold bz gJ; rw [if_pos rfl, HPT.out]
          have HC := ah (vg base ⟨b, pA, pn, pc, pre, bc, bn, be, bm⟩ com Nc Nj sj (x1, x2) (pt ++ ⟨#[47]⟩) We HMe.out HD.out (by omega) (by unfold maxLen; omega) HXO.out.dg (by show pre.size <= maxLen; unfold maxLen; omega) (by omega)); unfold WdE at HC; simp only [az] at HC; have hap2 : ¬ (9223372036854775807 < pt.size + 1) := by omega
          go_wp2_with fail; clear hpt; refine HC.out.mono ?_; rintro e w6 ⟨⟨v6, rfl⟩, hM6, hF6, hR6⟩; have HM6 := ah hM6; have HF6 := ah hF6; have HR6 : Hid (WkR b W2 w6) := HRe.out.trans hR6; rw [<- HE.out, <- HFO.out] at HM6; clear hM6 hF6 hR6 HC e0 e1 e2 e3 a0 a1 a2 y0 y1 y2 y3 hWe; go_wp2_with fail; go_roundw
          case rel => exact ⟨j + 1, Nj + 1, hlt2, by go_num, HM6.out, HFe.out.trans HF6.out, HR6.out, by omega⟩
          case measure => simp [intOf]; omega
        | false =>
          have HPX := ah (Tryz.strings_HasPrefix pt pre We); have hq1 : Lib.hasPrefix pt.data.toList pre.data.toList = decide (toL pre <+: toL pt) := iK pt pre; rw [hq1] at HPX; obtain ⟨oAe, oce, hbxe, _⟩ := HMe.out.box; have HBXe := ah hbxe; unfold wkC at HBXe; simp only at HBXe; clear hbxe hq1; have c1 := HBXe.out.cell 1; simp at c1; by_cases hpf : toL pre <+: toL pt
          . have HE : Hid (bz p pre q sj ⟨nm, false, (x1, x2)⟩ = (aL p sj (x1, x2) 1).1) := by
              show _ = _; unfold bz; rw [if_neg (show ¬ (false = true) by decide), HPT.out, if_pos hpf]
            rw [decide_eq_true hpf] at HPX; clear hpf; have HG := ah (ou base ⟨b, pA, pn, pc, pre, bc, bn, be, bm⟩ com Nc Nj sj p (x1, x2) 1 We HMe.out HD.out HPe.out (by omega) HPO.out hpn (by unfold maxLen; omega) HXO.out.dg); unfold WgE at HG; simp only [az] at HG; go_wp2_with fail; clear hpt; refine HPX.out.mono ?_; rintro e w6 ⟨rfl, rfl⟩; go_wp2_with fail; refine HG.out.mono ?_; rintro e w7 ⟨hq7, hM7, hF7, hR7⟩; have HM7 := ah hM7; have HF7 := ah hF7; have HR7 : Hid (WkR b W2 w7) := HRe.out.trans hR7; rw [<- HE.out, <- HFO.out] at HM7; have HRET : Hid (∃ v, e = .returned v) := by
             rcases hq7 with ⟨o, sl, _, _, rfl, _⟩ | ⟨_, o, sl, rfl⟩
             . exact ⟨_, rfl⟩
             . exact ⟨_, rfl⟩
            obtain ⟨v7, rfl⟩ := HRET.out; clear hM7 hF7 hR7 HG hq7 HRET e0 e1 e2 e3 a0 a1 a2 y0 y1 y2 y3 c1; go_wp2_with fail; go_roundw
            case rel => exact ⟨j + 1, Nj + 1, hlt2, by go_num, HM7.out, HFe.out.trans HF7.out, HR7.out, by omega⟩
            case measure => simp [intOf]; omega
          . have HE : Hid (bz p pre q sj ⟨nm, false, (x1, x2)⟩ = sj) := by
              show _ = _; unfold bz; rw [if_neg (show ¬ (false = true) by decide), HPT.out, if_neg hpf]
            rw [decide_eq_false hpf] at HPX; rw [HE.out] at HFO; clear hpf; go_wp2_with fail; clear hpt; refine HPX.out.mono ?_; rintro e w6 ⟨rfl, rfl⟩; go_wp2_with fail; go_roundw
            case rel => exact ⟨j + 1, Nj, hlt2, by go_num, by rw [HFO.out]; exact HMe.out, HFe.out, HRe.out, by omega⟩
            case measure => simp [intOf]; omega
      . have hlz : ¬ (j : Int) < (en : Int) := by omega
        have HTA : Hid (ents.take j = ents) := List.take_of_length_le (by rw [HEL.out]; omega); rw [HTA.out] at HMj; have HFw := ah (HF5.out.trans HFj.out); go_wp2_with fail
        go_roundg (gk0 - 1)
        case rel => exact ⟨Nj, _, HMj.out, HFw.out, HIP.out, by have := HPL.out; have := HV1.out; show _ <= _; omega, by omega, by have := HGK.out; omega⟩
        case measure => have := HGK.out; omega
end
section
open Go.Maps
section
variable (p : List Itm) (hs : List Dig) (stop : Dig -> Prop) (dep : Int) (lo : Nat) (wb : Nat) (pA : OA) (pn pc : Nat) (pre : ByteArray) (hA : OA) (hn hc : Nat) (eo : Option Nat)
def yw (v : Option Value) (W : World) : Prop := ∃ b, v = some (.map (some b)) /\ lo <= b /\ Sd W b 0 (fun _ => false)
def Gh (v : Option Value) (W : World) : Prop := ∃ b N com, v = some (.map (some b)) /\ lo <= b /\ Sd W b N com /\ (∀ d, com d = true ↔ NC p hs stop dep d) /\ N <= 10000
def FO (v : Option Value) (W : World) : Prop := ∃ b, v = some (.map (some b)) /\ lo <= b /\ Sp14 W b 0 (fun _ => false)
def FulS (bc bn be bm : Nat) (N : Nat) (com : Dig -> Bool) (W : World) : Prop :=
 (lo <= bc /\ lo <= bn /\ lo <= be /\ lo <= bm) /\ (bc ≠ bn /\ bc ≠ be /\ bc ≠ bm /\ bn ≠ be /\ bn ≠ bm /\ be ≠ bm) /\ Sd W bc N com /\ Sd W bn 0 (fun _ => false) /\ Sd W be 0 (fun _ => false) /\ Sp14 W bm 0 (fun _ => false) /\ (∀ d, com d = true ↔ NC p hs stop dep d) /\ N <= 10000
def wk0 (bc bn be bm : Nat) : Array Value := #[.slice pA pn pc, .string pre, .map (some bc), .map (some bn), .map (some be), .map (some bm), .slice none 0 0, .bool false]
def FdF (i : Nat) (v : Option Value) (W : World) : Prop :=
 match i with
 | 0 => v = some (.slice pA pn pc)
 | 1 => v = some (.pointer (some ⟨wb, 1, none⟩))
 | 2 => v = some (.string pre)
 | 3 => v = some (.slice pA pn pc)
 | 4 => v = some (.slice hA hn hc)
 | 5 => v = some (.pointer (some ⟨wb, 0, none⟩))
 | 6 => v = some (.int .i64 dep)
 | 7 => v = some (.map eo)
 | 8 => Gh p hs stop dep lo v W
 | 9 => yw lo v W
 | 10 => yw lo v W
 | 11 => FO lo v W
 | 12 => ∃ bc bn be bm N com, v = some (.agg (wk0 pA pn pc pre bc bn be bm)) /\ FulS p hs stop dep lo bc bn be bm N com W
 | 13 => ∃ bb bc bn be bm N com, v = some (.pointer (some ⟨bb, 0, none⟩)) /\ lo <= bb /\ Bk W bb 67 (wk0 pA pn pc pre bc bn be bm) /\ FulS p hs stop dep lo bc bn be bm N com W
 | _ => True
theorem FulS.keep {p : List Itm} {hs : List Dig} {stop : Dig -> Prop} {dep : Int} {lo bc bn be bm N : Nat} {com : Dig -> Bool} {W W' : World} (h : FulS p hs stop dep lo bc bn be bm N com W) (hb : Below W.heap.size W W') : FulS p hs stop dep lo bc bn be bm N com W' := by
 obtain ⟨h1, h2, h3, h4, h5, h6, h7⟩ := h; exact ⟨h1, h2, h3.below hb h3.lt, h4.below hb h4.lt, h5.below hb h5.lt, h6.below hb h6.lt, h7⟩
theorem FdF.keep {i : Nat} {v : Option Value} {W W' : World} (h : FdF p hs stop dep lo wb pA pn pc pre hA hn hc eo i v W) (hb : Below W.heap.size W W') : FdF p hs stop dep lo wb pA pn pc pre hA hn hc eo i v W' := by
 match i, h with
 | 0, h | 1, h | 2, h | 3, h | 4, h | 5, h | 6, h | 7, h => exact h
 | 8, ⟨b, N, com, h1, h2, h3, h4⟩ => exact ⟨b, N, com, h1, h2, h3.below hb h3.lt, h4⟩
 | 9, ⟨b, h1, h2, h3⟩ => exact ⟨b, h1, h2, h3.below hb h3.lt⟩
 | 10, ⟨b, h1, h2, h3⟩ => exact ⟨b, h1, h2, h3.below hb h3.lt⟩
 | 11, ⟨b, h1, h2, h3⟩ => exact ⟨b, h1, h2, h3.below hb h3.lt⟩
 | 12, ⟨bc, bn, be, bm, N, com, h1, h2⟩ => exact ⟨bc, bn, be, bm, N, com, h1, h2.keep hb⟩
 | 13, ⟨bb, bc, bn, be, bm, N, com, h1, h2, h3, h4⟩ => exact ⟨bb, bc, bn, be, bm, N, com, h1, h2, h3.below hb h3.lt, h4.keep hb⟩
 | _ + 14, _ => trivial
theorem FdF.map {i : Nat} {v : Option Value} {W : World} (h : FdF p hs stop dep lo wb pA pn pc pre hA hn hc eo i v W) (h1 : 8 <= i) (h2 : i < 12) : ∃ b, v = some (.map (some b)) /\ lo <= b /\ b < W.heap.size := by
 match i, h1, h2, h with
 | 8, _, _, ⟨b, N, com, h1, h2, h3, h4⟩ => exact ⟨b, h1, h2, h3.lt⟩
 | 9, _, _, ⟨b, h1, h2, h3⟩ => exact ⟨b, h1, h2, h3.lt⟩
 | 10, _, _, ⟨b, h1, h2, h3⟩ => exact ⟨b, h1, h2, h3.lt⟩
 | 11, _, _, ⟨b, h1, h2, h3⟩ => exact ⟨b, h1, h2, h3.lt⟩
 | i + 12, _, h, _ => omega
def FdI (W0 : World) (dn : Nat -> Bool) (vs : List Value) (W : World) : Prop :=
 Below W0.heap.size W0 W /\ (∀ i, i < 14 -> dn i = true -> FdF p hs stop dep lo wb pA pn pc pre hA hn hc eo i vs[i]? W) /\ ∀ i j, 8 <= i -> i < j -> j < 12 -> dn i = true -> dn j = true -> vs[i]? ≠ vs[j]?
theorem FdI.step {W0 : World} {dn : Nat -> Bool} {vs : List Value} {W W' : World} {i : Nat} {v : Value} (h : FdI p hs stop dep lo wb pA pn pc pre hA hn hc eo W0 dn vs W) (hv : vs.length = 14) (hi : i < 14) (hb : Below W.heap.size W W')
  (hf : FdF p hs stop dep lo wb pA pn pc pre hA hn hc eo i (some v) W') (hm : 8 <= i -> i < 12 -> ∃ b, v = .map (some b) /\ W.heap.size <= b) : FdI p hs stop dep lo wb pA pn pc pre hA hn hc eo W0 (fun j => decide (j = i) || dn j) (vs.set i v) W' := by
 obtain ⟨h1, h2, h3⟩ := h; have hself : (vs.set i v)[i]? = some v := List.getElem?_set_self (by omega); have hother : ∀ j, j ≠ i -> (vs.set i v)[j]? = vs[j]? := fun j hj => List.getElem?_set_ne (fun e => hj e.symm); have hdn : ∀ j, j ≠ i -> (decide (j = i) || dn j) = true -> dn j = true := fun j hj h => by simpa [hj] using h
 refine ⟨h1.trans (hb.mono h1.size), fun j hj hd => ?_, fun j k hj hjk hk hdj hdk => ?_⟩
 . by_cases e : j = i
   . subst e; rw [hself]; exact hf
   . rw [hother j e]; exact (h2 j hj (hdn j e hd)).keep p hs stop dep lo wb pA pn pc pre hA hn hc eo hb
 . have key : ∀ j, j ≠ i -> 8 <= j -> j < 12 -> dn j = true -> 8 <= i -> i < 12 -> vs[j]? ≠ some v := fun j hj h8 h12 hd hi8 hi12 e => by
     obtain ⟨b, hvb, hbl⟩ := hm hi8 hi12; obtain ⟨b2, e2, _, e3⟩ := (h2 j (by omega) hd).map p hs stop dep lo wb pA pn pc pre hA hn hc eo h8 h12; rw [e, hvb] at e2; have := Option.some.inj e2; injection this with this; have := Option.some.inj this; omega
   by_cases e : j = i
   . subst e
     rw [hself, hother k (by omega)]; exact fun h => key k (by omega) (by omega) hk (hdn k (by omega) hdk) hj (by omega) h.symm
   . by_cases e2 : k = i
     . subst e2
       rw [hself, hother j e]; exact key j e hj (by omega) (hdn j e hdj) (by omega) hk
     . rw [hother j e, hother k e2]
       exact h3 j k hj hjk hk (hdn j e hdj) (hdn k e2 hdk)
end
theorem De (ev : Operand -> Value) (o : Oper) (x0 x1 x2 x3 x4 x5 : Operand) (ho : o.op = .build 67 #[(0, x0), (1, x1), (2, x2), (3, x3), (4, x4), (5, x5)]) (pA : OA) (pn pc : Nat) (pre : ByteArray) (bc bn be bm : Nat)
  (h0 : ev x0 = .slice pA pn pc) (h1 : ev x1 = .string pre) (h2 : ev x2 = .map (some bc)) (h3 : ev x3 = .map (some bn)) (h4 : ev x4 = .map (some be)) (h5 : ev x5 = .map (some bm)) (W : World) :
  (execOp ev o).run Tryz.prog W = .ok (.value (.agg (wk0 pA pn pc pre bc bn be bm))) W := by
 unfold wk0; simp only [execOp, ho]; simp [h0, h1, h2, h3, h4, h5]
 go_simp
def FdE (p : List Itm) (hs : List Dig) (stop : Dig -> Prop) (dep : Int) (pre : ByteArray) (w : World) (e : Ending) (w' : World) : Prop :=
 ∃ k com Nc N s, e = .returned (.pointer (some ⟨k.b, 0, none⟩)) /\ WkM w' w.heap.size k com Nc N s /\ WkD w.heap.size k /\ N <= 500000000 /\ (∀ d, s.ne d = true ↔ Need p hs stop dep (toL pre) d) /\ (s.wr = true ↔ bZ p hs stop dep (toL pre)) /\ (∀ d, s.ed d = true ↔ dZ p hs stop dep d) /\ Below w.heap.size w w'
theorem Ci {p : List Itm} {hs : List Dig} (hp : PlOk p) (hn : p.length <= 40) (hh : hs.length <= 8) : (eY p hs).length <= 10000 := by
 unfold eY; rw [List.length_append]; have := ky (n := 8) p (f := fun i => (fw i.2).pars) fun i hi => by
  obtain ⟨o, ho, e⟩ := hp.1 i hi; rw [e, fq ho]; exact (gQ ho).1
 omega
theorem AY (p : List Itm) (pA : OA) (pn pc : Nat) (hs : List Dig) (hA : OA) (hn hc : Nat) (dep : Int) (pre : ByteArray) (eo : Option Nat) (Ne : Nat) (ed : Dig -> Bool) (stop : Dig -> Prop) (B : Nat) (w : World)
  (h0 : Sl w B 3 pA pn (flat itC p)) (h1 : Sl w B 2 hA hn (flat dgC hs)) (hB : B <= w.heap.size) (hes : (eo = none /\ ∀ d, ed d = false) ∨ ∃ b, eo = some b /\ b < B /\ Sd w b Ne ed) (hpo : PlOk p) (hpn : pn <= 40) (hh : ∀ d ∈ hs, WfD d) (hhn : hn <= 8) (hst : ∀ d, ed d = true ↔ stop d) (hpr : pre.size <= 100) :
  Calls Tryz.prog 27 #[.slice pA pn pc, .slice hA hn hc, scV dep pre, .map eo] w (FdE p hs stop dep pre w) := by
 have HPO := ah hpo; have HH := ah hh; have HST := ah hst; have HPL := ah (h0.len cO (by omega)); have HHL := ah (h1.len aS (by omega)); have HU : Hid ((eY p hs).length <= 10000) := Ci hpo (by rw [HPL.out]; omega) (by rw [HHL.out]; omega); clear hpo hh hst; unfold scV; obtain ⟨W0, hW0⟩ : ∃ W, w.alloc (.cells #[.int .i64 dep, .string pre] 26) = W := ⟨_, rfl⟩
 have HB0 : Hid (Below w.heap.size w W0) := by rw [<- hW0]; exact (Below.refl _ w).alloc ai _
 have HK0 : Hid (Bk W0 w.heap.size 26 #[.int .i64 dep, .string pre]) := by rw [<- hW0]; exact Bk.new w _ _
 have zW0 : w.heap.size < W0.heap.size := HK0.out.lt; have HP0 := ah ((h0.below HB0.out hB).more hB); have HH0 := ah ((h1.below HB0.out hB).more hB); have HES : Hid ((eo = none /\ ∀ d, ed d = false) ∨ ∃ b, eo = some b /\ b < w.heap.size /\ Sd W0 b Ne ed) := by
  rcases hes with h | ⟨b, h1, h2, h3⟩
  . exact .inl h
  . exact .inr ⟨b, h1, by omega, h3.below HB0.out (by omega)⟩
 have HCM : Hid (∀ W, Below W0.heap.size W0 W -> Calls Tryz.prog 48 #[.slice pA pn pc, .slice hA hn hc, .int .i64 dep, .map eo] W (yD p hs stop dep W)) := fun W hW =>
  zQ p pA pn pc hs hA hn hc dep eo Ne ed stop W0.heap.size W ((HP0.out.more (by omega)).below hW ai) ((HH0.out.more (by omega)).below hW ai) hW.size (by
   rcases HES.out with h | ⟨b, h1, h2, h3⟩
   . exact .inl h
   . exact .inr ⟨b, h1, by omega, h3.below hW (by omega)⟩) HPO.out (by omega) HH.out HST.out HU.out (by omega)
 have k0 := HK0.out.cell 0; have k1 := HK0.out.cell 1; simp at k0 k1; have HW0 := ah hW0; clear h0 h1 hes hW0; have hmm := @run_makeMap Tryz.prog
 go_enter Tryz.func27, Tryz.ntmps27
 go_wp2_with fail; rw [HW0.out]; refine zm 14 (10 :: 11 :: 12 :: 13 :: 14 :: 15 :: 16 :: 17 :: 18 :: 19 :: 20 :: 21 :: 22 :: 23 :: []) (by kernel_rfl) (by kernel_rfl) (by kernel_rfl) (FdI p hs stop dep W0.heap.size w.heap.size pA pn pc pre hA hn hc eo W0) ?start ?step ?tail
 case start => exact fun vs hv => ⟨(Below.refl _ _).drew, (fun i _ h => by cases h), (fun i j _ _ _ h => by cases h)⟩
 case step =>
  intro dn i o vs W hi hdi ho hv hI hdeps; have hst := fun {v : Value} {W' : World} => FdI.step p hs stop dep W0.heap.size w.heap.size pA pn pc pre hA hn hc eo (v := v) (W' := W') hI hv hi; obtain ⟨hR, hF, hD⟩ := hI; have hWz := hR.size; have c0 := (hR.cell (p := ⟨w.heap.size, 0, none⟩) (by show w.heap.size < _; omega)).trans k0; have c1 := (hR.cell (p := ⟨w.heap.size, 1, none⟩) (by show w.heap.size < _; omega)).trans k1; obtain ⟨v0, v1, v2, v3, v4, v5, v6, v7, v8, v9, v10, v11, v12, v13, hvs⟩ := yo hv; subst hvs; simp only [List.zip, List.zipWith, aG, Act.put, List.setIfInBounds_toArray, List.set]; have hno : ∀ {k : Nat} {P : Prop}, ¬ (8 <= k /\ k < 12) -> 8 <= k -> k < 12 -> P := fun h h1 h2 => absurd ⟨h1, h2⟩ h
  match i, hi, ho with
  | 0, _, rfl => exact .inl ⟨rfl, ax (v := .slice pA pn pc) (w' := W) (by go_simp) (hst (Below.refl _ _) rfl (hno (by decide)))⟩
  | 1, _, rfl => exact .inl ⟨rfl, ax (v := .pointer (some ⟨w.heap.size, 1, none⟩)) (w' := W) (by go_simp) (hst (Below.refl _ _) rfl (hno (by decide)))⟩
  | 2, _, rfl =>
    obtain rfl : v1 = _ := Option.some.inj (hF 1 (by omega) (hdeps ⟨1, .data⟩ (by simp) rfl (by decide))); exact .inl ⟨rfl, ax (v := .string pre) (w' := W) (by go_simp) (hst (Below.refl _ _) rfl (hno (by decide)))⟩
  | 3, _, rfl => exact .inl ⟨rfl, ax (v := .slice pA pn pc) (w' := W) (by go_simp) (hst (Below.refl _ _) rfl (hno (by decide)))⟩
  | 4, _, rfl => exact .inl ⟨rfl, ax (v := .slice hA hn hc) (w' := W) (by go_simp) (hst (Below.refl _ _) rfl (hno (by decide)))⟩
  | 5, _, rfl => exact .inl ⟨rfl, ax (v := .pointer (some ⟨w.heap.size, 0, none⟩)) (w' := W) (by go_simp) (hst (Below.refl _ _) rfl (hno (by decide)))⟩
  | 6, _, rfl =>
    obtain rfl : v5 = _ := Option.some.inj (hF 5 (by omega) (hdeps ⟨5, .data⟩ (by simp) rfl (by decide))); exact .inl ⟨rfl, ax (v := .int .i64 dep) (w' := W) (by go_simp) (hst (Below.refl _ _) rfl (hno (by decide)))⟩
  | 7, _, rfl => exact .inl ⟨rfl, ax (v := .map eo) (w' := W) (by go_simp) (hst (Below.refl _ _) rfl (hno (by decide)))⟩
  | 8, _, rfl =>
    obtain rfl : v3 = _ := Option.some.inj (hF 3 (by omega) (hdeps ⟨3, .data⟩ (by simp) rfl (by decide))); obtain rfl : v4 = _ := Option.some.inj (hF 4 (by omega) (hdeps ⟨4, .data⟩ (by simp) rfl (by decide))); obtain rfl : v6 = _ := Option.some.inj (hF 6 (by omega) (hdeps ⟨6, .data⟩ (by simp) rfl (by decide))); obtain rfl : v7 = _ := Option.some.inj (hF 7 (by omega) (hdeps ⟨7, .data⟩ (by simp) rfl (by decide))); refine .inl ⟨rfl, bU (f := 48) (args := #[.slice pA pn pc, .slice hA hn hc, .int .i64 dep, .map eo]) (by go_simp) ((HCM.out W hR).mono ?_)⟩; rintro e W' ⟨bc, Nc, com, rfl, h1, h2, h3, h4, h5⟩; exact ⟨_, rfl, hst h5 ⟨bc, Nc, com, rfl, by omega, h1, h3, h4⟩ (fun _ _ => ⟨bc, rfl, h2⟩)⟩
  | 9, _, rfl => exact .inl ⟨rfl, ax (v := .map (some W.heap.size)) (w' := W.alloc (.map #[] 0)) (by go_simp) (hst ((Below.refl _ W).alloc ai _) ⟨W.heap.size, rfl, hWz, Sd.made W⟩ (fun _ _ => ⟨W.heap.size, rfl, Nat.le_refl _⟩))⟩
  | 10, _, rfl => exact .inl ⟨rfl, ax (v := .map (some W.heap.size)) (w' := W.alloc (.map #[] 0)) (by go_simp) (hst ((Below.refl _ W).alloc ai _) ⟨W.heap.size, rfl, hWz, Sd.made W⟩ (fun _ _ => ⟨W.heap.size, rfl, Nat.le_refl _⟩))⟩
  | 11, _, rfl => exact .inl ⟨rfl, ax (v := .map (some W.heap.size)) (w' := W.alloc (.map #[] 0)) (by go_simp) (hst ((Below.refl _ W).alloc ai _) ⟨W.heap.size, rfl, hWz, Gm.made W _ _ _ _⟩ (fun _ _ => ⟨W.heap.size, rfl, Nat.le_refl _⟩))⟩
  | 12, _, rfl =>
    have d8 := hdeps ⟨8, .data⟩ (by simp) rfl (by decide); have d9 := hdeps ⟨9, .data⟩ (by simp) rfl (by decide); have d10 := hdeps ⟨10, .data⟩ (by simp) rfl (by decide); have d11 := hdeps ⟨11, .data⟩ (by simp) rfl (by decide); obtain rfl : v0 = _ := Option.some.inj (hF 0 (by omega) (hdeps ⟨0, .data⟩ (by simp) rfl (by decide))); obtain rfl : v2 = _ := Option.some.inj (hF 2 (by omega) (hdeps ⟨2, .data⟩ (by simp) rfl (by decide))); obtain ⟨bc, Nc, com, h8, l8, s8, hc8, n8⟩ := hF 8 (by omega) d8; obtain ⟨bn, h9, l9, s9⟩ := hF 9 (by omega) d9; obtain ⟨be, h10, l10, s10⟩ := hF 10 (by omega) d10; obtain ⟨bm, h11, l11, s11⟩ := hF 11 (by omega) d11; have n1 := hD 8 9 (by omega) (by omega) (by omega) d8 d9; have n2 := hD 8 10 (by omega) (by omega) (by omega) d8 d10; have n3 := hD 8 11 (by omega) (by omega) (by omega) d8 d11; have n4 := hD 9 10 (by omega) (by omega) (by omega) d9 d10; have n5 := hD 9 11 (by omega) (by omega) (by omega) d9 d11; have n6 := hD 10 11 (by omega) (by omega) (by omega) d10 d11; simp only [List.getElem?_cons_succ, List.getElem?_cons_zero, Option.some.injEq] at h8 h9 h10 h11 n1 n2 n3 n4 n5 n6; subst h8 h9 h10 h11; have ne : ∀ {x y : Nat}, some (Value.map (some x)) ≠ some (Value.map (some y)) -> x ≠ y := fun h e => h (by rw [e]); exact .inl ⟨rfl, ax (v := .agg (wk0 pA pn pc pre bc bn be bm)) (w' := W) (De _ _ (.tmp 10) (.tmp 12) (.tmp 18) (.tmp 19) (.tmp 20) (.tmp 21) rfl pA pn pc pre bc bn be bm rfl rfl rfl rfl rfl rfl W) (hst (Below.refl _ _) ⟨bc, bn, be, bm, Nc, com, rfl, ⟨l8, l9, l10, l11⟩, ⟨ne n1, ne n2, ne n3, ne n4, ne n5, ne n6⟩, s8, s9, s10, s11, hc8, n8⟩ (hno (by decide)))⟩
  | 13, _, rfl =>
    obtain ⟨bc, bn, be, bm, Nc, com, h12, hful⟩ := hF 12 (by omega) (hdeps ⟨12, .data⟩ (by simp) rfl (by decide)); simp only [List.getElem?_cons_succ, List.getElem?_cons_zero, Option.some.injEq] at h12; subst h12; have hb : Below W.heap.size W (W.alloc (.cells (wk0 pA pn pc pre bc bn be bm) 67)) := (Below.refl _ W).alloc ai _; exact .inl ⟨rfl, ax (v := .pointer (some ⟨W.heap.size, 0, none⟩)) (w' := W.alloc (.cells (wk0 pA pn pc pre bc bn be bm) 67)) (by unfold wk0; go_simp) (hst hb ⟨W.heap.size, bc, bn, be, bm, Nc, com, rfl, hWz, Bk.new W _ _, hful.keep hb⟩ (hno (by decide)))⟩
  | i + 14, hi, _ => exact absurd hi (by omega)
 case tail =>
  intro vs W hv ⟨hR, hF, _⟩; obtain ⟨v0, v1, v2, v3, v4, v5, v6, v7, v8, v9, v10, v11, v12, v13, hvs⟩ := yo hv; obtain ⟨bb, bc, bn, be, bm, Nc, com, h13, lbb, hbk, ⟨⟨l1, l2, l3, l4⟩, ⟨n1, n2, n3, n4, n5, n6⟩, s8, s9, s10, s11, hcm, hNc⟩⟩ := hF 13 (by omega) (by decide); have hRl := hR; subst hvs; simp only [List.getElem?_cons_succ, List.getElem?_cons_zero, Option.some.injEq] at h13; subst h13; simp only [List.zip, List.zipWith, aG, Act.put, List.setIfInBounds_toArray, List.set, List.drop]; have HM : Hid (WkM W w.heap.size ⟨bb, pA, pn, pc, pre, bc, bn, be, bm⟩ com Nc 0 s0S) := ⟨⟨none, 0, hbk, ⟨rfl, .inl ⟨rfl, rfl⟩⟩, Nat.le_refl _, Nat.zero_le _⟩, s8, s9, s10, s11⟩
  have HD : Hid (WkD w.heap.size ⟨bb, pA, pn, pc, pre, bc, bn, be, bm⟩) := ⟨by show w.heap.size <= bb; omega, by show w.heap.size <= bc; omega, by show w.heap.size <= bn; omega, by show w.heap.size <= be; omega, by show w.heap.size <= bm; omega, n1, n2, n3, n4, n5, n6⟩
  have HBW : Hid (Below w.heap.size w W) := HB0.out.trans (hR.mono (by omega)); have HPW : Hid (Sl W w.heap.size 3 pA pn (flat itC p)) := HP0.out.below hR (by omega); have HCO := ah hcm; have HV := ah (DX w.heap.size ⟨bb, pA, pn, pc, pre, bc, bn, be, bm⟩ com Nc 0 s0S p hs stop dep W HM.out HD.out HPW.out HBW.out.size HPO.out (by show pn <= 1000000; omega) WkI.start hcm HH.out (by omega) (by show 0 + Nc <= _; omega) (by show pre.size <= maxLen; unfold maxLen; omega)); clear hR hF hRl hbk s8 s9 s10 s11 hcm k0 k1; go_wp2_with fail; refine HV.out.mono ?_; rintro e w1 ⟨⟨v, rfl⟩, s1, N1, hM1, hN1, ho1, hF1, hI1⟩; have HM1 := ah hM1; have HB1 : Hid (Below w.heap.size w w1) := HBW.out.trans (hF1.below HBW.out.size); have hvb : vS p pre s1 <= 1000000 := by
   have h1 := AB (pre := pre) HPO.out (by rw [HPL.out]; exact hpn) (by unfold toL; simpa using hpr); have h2 : s1.op.length <= 0 + Nc := ho1; unfold vS; omega
  have HW := ah (EI w.heap.size ⟨bb, pA, pn, pc, pre, bc, bn, be, bm⟩ com Nc N1 1000000 s1 p hs stop dep (fun d => com d = true) w1 hM1 HD.out (HPW.out.below (hF1.below HBW.out.size) ai) HB1.out.size HPO.out (by show pn <= 1000000; omega) hI1 HH.out hvb ai (by omega) hpr); clear hM1 hF1 hI1 ho1 HV; go_wp2_with fail; refine HW.out.mono ?_; rintro e w2 ⟨⟨v, rfl⟩, s2, N2, hM2, hN2, ho2, hF2, hI2⟩; have HM2 := ah hM2; have HB2 : Hid (Below w.heap.size w w2) := HB1.out.trans (hF2.below HB1.out.size); have HEND := ah (hI2.end_ HCO.out (fun d h => h) ho2); clear hM2 hF2 hI2 ho2 HW; go_wp2_with fail; go_ret
  exact ⟨_, com, Nc, N2, s2, rfl, HM2.out, HD.out, by omega, HEND.out.1, HEND.out.2.1, HEND.out.2.2, HB2.out⟩
end
section
open Go.Maps
def NdE (p : List Itm) (hs : List Dig) (dep : Int) (pre : ByteArray) (w : World) (e : Ending) (w' : World) : Prop :=
 ∃ l edge z A c A2 c2, e = .returned (.tuple #[.slice A l.length c, .slice A2 edge.length c2, .int .i64 z]) /\ NdR 2 4 9 p hs dep (toL pre) l edge z /\ (Sl w' w'.heap.size 2 A l.length (flat dgC l) /\ Sl w' w'.heap.size 2 A2 edge.length (flat dgC edge)) /\ (∀ d ∈ l, WfD d) /\ (l.length <= c /\ c <= maxLen /\ edge.length <= c2 /\ c2 <= maxLen) /\ l.length <= 500000000 /\ edge.length <= 500000000 /\ Below w.heap.size w w'
theorem oJ {p : List Itm} {hs : List Dig} {dep : Int} {pre : ByteArray} {w w' : World} {z : Int} (h : NdR 2 4 9 p hs dep (toL pre) [] [] z) (hb : Below w.heap.size w w') : NdE p hs dep pre w (.returned (.tuple #[.slice none 0 0, .slice none 0 0, .int .i64 z])) w' :=
 ⟨[], [], z, none, 0, none, 0, rfl, h, ⟨Sl.nil _ _ _ _, Sl.nil _ _ _ _⟩, (fun d h => by cases h), ⟨Nat.le_refl _, Nat.zero_le _, Nat.le_refl _, Nat.zero_le _⟩, Nat.zero_le _, Nat.zero_le _, hb⟩
def SrV (lo : Nat) (s : Dig -> Bool) (N : Nat) (v : Value) (W : World) : Prop :=
 ∃ A c l, v = .slice A l.length c /\ AscD l /\ (∀ d, d ∈ l ↔ bG d /\ s d = true) /\ l.length <= N /\ W.ownsRow lo 42 2 (.slice A l.length c) l.length (flat dgC l)
theorem SrV.keep {lo : Nat} {s : Dig -> Bool} {N : Nat} {v : Value} {W W' : World} (h : SrV lo s N v W) (hb : Below W.heap.size W W') : SrV lo s N v W' := by
 obtain ⟨A, c, l, h1, h2, h3, h4, h5⟩ := h; exact ⟨A, c, l, h1, h2, h3, h4, fE h5 hb⟩
theorem lU {w : World} {base size n c : Nat} {e : TypeId} {A : OA} {xs : List Value} (h : w.ownsRow base e size (.slice A n c) n xs) : n <= c /\ c <= maxLen := (Que.of_own h).le
theorem pR {p : List Itm} {hs : List Dig} {stop : Dig -> Prop} {dep : Int} {pre : Bytes} (hp : PlOk p) (hh : ∀ h ∈ hs, WfD h) {d : Dig} (h : Need p hs stop dep pre d) : WfD d := by
 obtain ⟨k, h⟩ := h; cases h with
 | com h => exact qB hp hh h
 | dir h => exact xu hp h
 | blob _ g _ m _ _ => exact (jy (mh hp g) _ m).dg
theorem FB {dep : Int} {pre : ByteArray} (h : scE dep pre = 0) : 0 <= dep /\ pre.size <= 100 := by
 unfold scE at h; split at h
 . cases h
 . split at h
   . cases h
   . omega
theorem Fa {p : List Itm} {hs : List Dig} {dep : Int} {pre : ByteArray} (h : scE dep pre ≠ 0) : NdR 2 4 9 p hs dep (toL pre) [] [] (scE dep pre) := by
 have e : (toL pre).length = pre.size := by unfold toL; simp
 unfold scE at h ⊢; by_cases h1 : dep < 0
 . rw [if_pos h1]; exact .range h1
 . rw [if_neg h1] at h ⊢
   by_cases h2 : 100 < pre.size
   . rw [if_pos h2]; exact .limit (by omega) (by omega)
   . rw [if_neg h2] at h; exact absurd rfl h
theorem sV (p : List Itm) (pA : OA) (pn pc : Nat) (hs : List Dig) (hA : OA) (hn hc : Nat) (dep : Int) (pre : ByteArray) (B : Nat) (w : World)
  (h0 : Sl w B 3 pA pn (flat itC p)) (h1 : Sl w B 2 hA hn (flat dgC hs)) (hB : B <= w.heap.size) (hpo : PlOk p) (hpn : pn <= 40) (hh : ∀ d ∈ hs, WfD d) (hhn : hn <= 8) :
  Calls Tryz.prog 9 #[.slice pA pn pc, .slice hA hn hc, scV dep pre] w (NdE p hs dep pre w) := by
 have HPO := ah hpo; have HH := ah hh; obtain ⟨W0, hW0⟩ : ∃ W, w.alloc (.cells #[.int .i64 dep, .string pre] 26) = W := ⟨_, rfl⟩
 have HB0 : Hid (Below w.heap.size w W0) := by rw [<- hW0]; exact (Below.refl _ w).alloc ai _
 have HK0 : Hid (Bk W0 w.heap.size 26 #[.int .i64 dep, .string pre]) := by rw [<- hW0]; exact Bk.new w _ _
 have zW0 : w.heap.size < W0.heap.size := HK0.out.lt; have HP0 := ah (h0.below HB0.out hB); have HH0 := ah (h1.below HB0.out hB); have HCK := ah (Dt dep pre W0); obtain ⟨x0, x1, _, _⟩ := HK0.out.two; have HW0 := ah hW0; rw [<- hW0] at x0 x1; unfold scV at HCK ⊢; clear hpo hh h0 h1 hW0
 go_enter Tryz.func9, Tryz.ntmps9
 go_wp2_with fail; rw [HW0.out]; refine HCK.out.mono ?_; rintro e w1 ⟨rfl, hb1⟩; have HK1 := ah (HK0.out.below hb1 zW0); have HB1 : Hid (Below w.heap.size w w1) := HB0.out.trans (hb1.mono (by omega)); have HP1 := ah (HP0.out.below hb1 (by omega)); have HH1 := ah (HH0.out.below hb1 (by omega)); have z1 : w.heap.size < w1.heap.size := HK1.out.lt; clear hb1 HCK x0 x1 HW0; obtain ⟨x0, x1, _, _⟩ := HK1.out.two; by_cases hsc : scE dep pre = 0
 case neg =>
  have HR := ah (Fa (p := p) (hs := hs) hsc); have t1 : (scE dep pre != 0) = true := by rw [bne_iff_ne]; exact hsc
  clear hsc; go_wp2_with fail; refine bodyPost_ret (results_tmp3 rfl _ _ _) rfl ?_; exact oJ HR.out HB1.out
 case pos =>
  obtain ⟨hd0, hp0⟩ := FB hsc; have t1 : (scE dep pre != 0) = false := by rw [hsc]; rfl
  have HPRL : Hid ((toL pre).length <= 100) := by show _ <= _; unfold toL; simpa using hp0
  have HD0 := ah hd0; have HFD := ah (AY p pA pn pc hs hA hn hc dep pre none 0 (fun _ => false) aF B w1 HP1.out HH1.out (by omega) (.inl ⟨rfl, fun _ => rfl⟩) HPO.out hpn HH.out hhn (fun d => by unfold aF; simp) hp0); unfold scV at HFD; clear hsc hd0 hp0; go_wp2_with fail; refine HFD.out.mono ?_; rintro e w2 ⟨k, com, Nc, N, s, rfl, hM2, hD2, hN2, hne, hwr, hed, hb2⟩; have HM2 := ah hM2; have HNE := ah hne; have HWR := ah hwr; have HED := ah hed; have HB2 : Hid (Below w.heap.size w w2) := HB1.out.trans (hb2.mono (by omega)); have HP2 := ah (HP1.out.below hb2 (by omega)); have HZ2 : Hid (w.heap.size < w2.heap.size /\ B <= w2.heap.size) := ⟨by have := hb2.size; omega, by have := HB2.out.size; omega⟩
  have hlt := hM2.lt; obtain ⟨oA, oc, hbx, _⟩ := hM2.box; have HBX := ah hbx; have HSN := ah hM2.ne; clear hM2 hD2 hne hwr hed hb2 hbx HFD x0 x1 t1; obtain ⟨b, pA', pn', pc', pre', bc, bn, be, bm⟩ := k; unfold wkC at HBX; simp only at HBX HSN hlt ⊢; obtain ⟨hl0, hl1, hl2, hl3, hl4⟩ := hlt; have c3 := HBX.out.cell 3; simp at c3
  go_wp2_with (at_range; refine aI ?_)
  refine aC ?_; refine rz rfl _ 63 rfl 42 4 fD Tryz.underlying63 bn N (sv s.ne) rfl HSN.out ?_; intro w3 cnt0 hr3 hg3 hz3; have hb3 : Below w2.heap.size w2 w3 := tJ hg3; have HR3 := ah hr3; have HM3 := ah (HM2.out.below hb3); have HB3 : Hid (Below w.heap.size w w3) := HB2.out.trans (hb3.mono (by have := HB2.out.size; omega)); have HP3 := ah (HP2.out.below hb3 (by have := HB2.out.size; omega)); clear hr3 hg3 hb3 c3 HM2 HBX HSN HB2 HP2
  go_wp2
  go_frame
  go_loopw [] (fun wr => ∃ (left : Dig -> Bool) (cnt : Nat), Hid (Below w3.heap.size w3 wr ∨ True) /\ Hid (WkM wr w1.heap.size ⟨b, pA', pn', pc', pre', bc, bn, be, bm⟩ com Nc N s) /\ Hid (GmR wr Tryz.prog 42 dO bG bn w2.heap.size N (sv s.ne) left cnt) /\ Hid (∀ d, bG d -> s.ne d = true -> left d = false -> ay p d ≠ none) /\ Hid (Below w.heap.size w wr) /\ Hid (Sl wr B 3 pA pn (flat itC p)) /\ w2.heap.size < wr.heap.size) (fun wr => wr.rangeLeft bn w2.heap.size)
  case atStart => exact ⟨_, cnt0, .inr trivial, HM3.out, HR3.out, (fun d _ h1 h2 => by rw [pz, h1] at h2; cases h2), HB3.out, HP3.out, by omega⟩
  case round =>
   obtain ⟨left, cnt, _, hM, hR, hL, hBel, hPr, hzr⟩ := hrel; have HMS := ah hR.out.left_; have HM := ah hM.out; have HL := ah hL.out; have HBr := ah hBel.out; have HPr := ah hPr.out; clear hM hL hBel hPr HM3 HR3 HB3 HP3
   go_wp2_with (at_next; refine aI ?_)
   refine aC ?_; refine rJ rfl _ rfl 42 fD bn w2.heap.size N (sv s.ne) left cnt rfl hR.out ?_ ?_
   . intro hdone
     have HNL : Hid (¬ dY p hs aF dep (toL pre)) := fun ⟨d, hn, hg⟩ => HL.out d (dF (pR HPO.out HH.out hn)) ((HNE.out d).2 hn) (hdone d (dF (pR HPO.out HH.out hn))) hg; clear hdone hR; obtain ⟨wo, hwo⟩ : ∃ wo, wo = wr := ⟨_, rfl⟩
     subst hwo; obtain ⟨oA, oc, hbx, _⟩ := HM.out.box; have HBX := ah hbx; unfold wkC at HBX; simp only at HBX; clear hbx; have c7 := HBX.out.cell 7; simp at c7; cases hw : s.wr with
     | true =>
       have HW : Hid (bZ p hs aF dep (toL pre)) := HWR.out.1 hw; rw [hw] at c7; clear hw; go_wp2_with fail; refine bodyPost_ret (results_tmp3 rfl _ _ _) rfl ?_; exact oJ (.wrong HD0.out HPRL.out HNL.out HW.out) HBr.out
     | false =>
       have HW : Hid (¬ bZ p hs aF dep (toL pre)) := fun h => by have := HWR.out.2 h; rw [hw] at this; cases this
       rw [hw] at c7; have c3 := HBX.out.cell 3; have c4 := HBX.out.cell 4; simp at c3 c4; have hbl : b < wo.heap.size := HBX.out.lt; have HSE := ah HM.out.ne; have HSD := ah HM.out.ed; have HSP : Hid (∀ x ∈ [(4, SrV wo.heap.size s.ne N), (9, SrV wo.heap.size s.ed N), (10, SrV wo.heap.size s.ne N), (11, SrV wo.heap.size s.ed N)], ∀ v W W', x.2 v W -> Below W.heap.size W W' -> x.2 v W') := fun x hx v W W' h hb => by
        simp only [List.mem_cons, List.not_mem_nil, or_false] at hx; rcases hx with rfl | rfl | rfl | rfl
        . exact SrV.keep h hb
        . exact SrV.keep h hb
        . exact SrV.keep h hb
        . exact SrV.keep h hb
       have hN9 : N <= 1000000000 := by omega
       clear hw; go_wp2_with fail; refine eu 12 (38 :: 39 :: 40 :: 41 :: 42 :: 43 :: 44 :: 45 :: 46 :: 47 :: 6 :: 7 :: []) (by kernel_rfl) (by kernel_rfl) (by kernel_rfl) (fun W => Below wo.heap.size wo W) (fun W W' => Below W.heap.size W W')
        (fM [(4, SrV wo.heap.size s.ne N), (9, SrV wo.heap.size s.ed N), (10, SrV wo.heap.size s.ne N), (11, SrV wo.heap.size s.ed N)] ((.pointer (some ⟨b, 0, none⟩)) :: (.pointer (some ⟨b, 0, none⟩)) :: (.pointer (some ⟨b, 3, none⟩)) :: (.map (some bn)) :: (undef) :: (.pointer (some ⟨b, 0, none⟩)) :: (.pointer (some ⟨b, 0, none⟩)) :: (.pointer (some ⟨b, 4, none⟩)) :: (.map (some be)) :: (undef) :: (undef) :: (undef) :: [])) (fun W W' h1 h2 => h1.trans (h2.mono h1.size)) (fun i v W W' h hb => iF HSP.out i v W W' h hb) (Below.refl _ _).drew ?stepA ?tailA
       case stepA =>
        intro i o vs W hi ho hv hR hphi; obtain ⟨v0, v1, v2, v3, v4, v5, v6, v7, v8, v9, v10, v11, rfl⟩ := jh hv; simp only [List.zip, List.zipWith, aG, Act.put, List.setIfInBounds_toArray, List.set]; have hWz := hR.size; have h3 := (hR.cell (p := ⟨b, 3, none⟩) (by show b < _; omega)).trans c3; have h4 := (hR.cell (p := ⟨b, 4, none⟩) (by show b < _; omega)).trans c4
        match i, hi, ho with
        | 0, _, rfl =>
          exact .inl ⟨rfl, ax (v := .pointer (some ⟨b, 0, none⟩)) (w' := W) (by go_simp) ⟨Below.refl _ _, fun _ => aA⟩⟩
        | 1, _, rfl =>
          have e0 : v0 = _ := hphi ⟨0, .data⟩ (by simp) rfl v0 rfl _ rfl; subst e0; exact .inl ⟨rfl, ax (v := .pointer (some ⟨b, 0, none⟩)) (w' := W) (by go_simp) ⟨Below.refl _ _, fun _ => aA⟩⟩
        | 2, _, rfl =>
          have e1 : v1 = _ := hphi ⟨1, .data⟩ (by simp) rfl v1 rfl _ rfl; subst e1; exact .inl ⟨rfl, ax (v := .pointer (some ⟨b, 3, none⟩)) (w' := W) (by go_simp) ⟨Below.refl _ _, fun _ => aA⟩⟩
        | 3, _, rfl =>
          have e2 : v2 = _ := hphi ⟨2, .data⟩ (by simp) rfl v2 rfl _ rfl; subst e2; exact .inl ⟨rfl, ax (v := .map (some bn)) (w' := W) (by go_simp) ⟨Below.refl _ _, fun _ => aA⟩⟩
        | 4, _, rfl =>
          have e3 : v3 = _ := hphi ⟨3, .data⟩ (by simp) rfl v3 rfl _ rfl; subst e3; refine .inl ⟨rfl, bU (f := 28) (args := #[.map (some bn)]) (by go_simp) (((sI bn N s.ne W (HSE.out.below hR HSE.out.lt) hN9)).mono ?_)⟩; rintro e W' ⟨A1, c1, l1, rfl, q1, q2, q3, q4, q5⟩; exact ⟨_, rfl, q5, ⟨A1, c1, l1, rfl, q1, q2, q3, fF q4 hR.size⟩⟩
        | 5, _, rfl =>
          exact .inl ⟨rfl, ax (v := .pointer (some ⟨b, 0, none⟩)) (w' := W) (by go_simp) ⟨Below.refl _ _, fun _ => aA⟩⟩
        | 6, _, rfl =>
          have e5 : v5 = _ := hphi ⟨5, .data⟩ (by simp) rfl v5 rfl _ rfl; subst e5; exact .inl ⟨rfl, ax (v := .pointer (some ⟨b, 0, none⟩)) (w' := W) (by go_simp) ⟨Below.refl _ _, fun _ => aA⟩⟩
        | 7, _, rfl =>
          have e6 : v6 = _ := hphi ⟨6, .data⟩ (by simp) rfl v6 rfl _ rfl; subst e6; exact .inl ⟨rfl, ax (v := .pointer (some ⟨b, 4, none⟩)) (w' := W) (by go_simp) ⟨Below.refl _ _, fun _ => aA⟩⟩
        | 8, _, rfl =>
          have e7 : v7 = _ := hphi ⟨7, .data⟩ (by simp) rfl v7 rfl _ rfl; subst e7; exact .inl ⟨rfl, ax (v := .map (some be)) (w' := W) (by go_simp) ⟨Below.refl _ _, fun _ => aA⟩⟩
        | 9, _, rfl =>
          have e8 : v8 = _ := hphi ⟨8, .data⟩ (by simp) rfl v8 rfl _ rfl; subst e8; refine .inl ⟨rfl, bU (f := 28) (args := #[.map (some be)]) (by go_simp) (((sI be N s.ed W (HSD.out.below hR HSD.out.lt) hN9)).mono ?_)⟩; rintro e W' ⟨A1, c1, l1, rfl, q1, q2, q3, q4, q5⟩; exact ⟨_, rfl, q5, ⟨A1, c1, l1, rfl, q1, q2, q3, fF q4 hR.size⟩⟩
        | 10, _, rfl =>
          obtain ⟨A4, cc4, l4, rfl, a4⟩ : (SrV wo.heap.size s.ne N) v4 W := hphi ⟨4, .data⟩ (by simp) rfl v4 rfl; exact .inl ⟨rfl, ax (v := .slice A4 l4.length cc4) (w' := W) (by go_simp) ⟨Below.refl _ _, A4, cc4, l4, rfl, a4⟩⟩
        | 11, _, rfl =>
          obtain ⟨A9, cc9, l9, rfl, a9⟩ : (SrV wo.heap.size s.ed N) v9 W := hphi ⟨9, .data⟩ (by simp) rfl v9 rfl; exact .inl ⟨rfl, ax (v := .slice A9 l9.length cc9) (w' := W) (by go_simp) ⟨Below.refl _ _, A9, cc9, l9, rfl, a9⟩⟩
        | i + 12, hi, _ => exact absurd hi (by omega)
       case tailA =>
        intro vs W hv hR hphi; obtain ⟨v0, v1, v2, v3, v4, v5, v6, v7, v8, v9, v10, v11, rfl⟩ := jh hv; simp only [List.zip, List.zipWith, aG, Act.put, List.setIfInBounds_toArray, List.set, List.drop]; have e0 : v0 = _ := hphi 0 v0 rfl _ rfl; have e1 : v1 = _ := hphi 1 v1 rfl _ rfl; have e2 : v2 = _ := hphi 2 v2 rfl _ rfl; have e3 : v3 = _ := hphi 3 v3 rfl _ rfl; have e4 : (SrV wo.heap.size s.ne N) v4 W := hphi 4 v4 rfl; have e5 : v5 = _ := hphi 5 v5 rfl _ rfl; have e6 : v6 = _ := hphi 6 v6 rfl _ rfl; have e7 : v7 = _ := hphi 7 v7 rfl _ rfl; have e8 : v8 = _ := hphi 8 v8 rfl _ rfl; have e9 : (SrV wo.heap.size s.ed N) v9 W := hphi 9 v9 rfl; have e10 : (SrV wo.heap.size s.ne N) v10 W := hphi 10 v10 rfl; have e11 : (SrV wo.heap.size s.ed N) v11 W := hphi 11 v11 rfl; subst e0 e1 e2 e3 e5 e6 e7 e8; clear hphi hv; obtain ⟨A4, cc4, l4, rfl, a4, m4, n4, o4⟩ := e10; obtain ⟨A9, cc9, l9, rfl, a9, m9, n9, o9⟩ := e11; have HA4 := ah a4; have HM4 := ah m4; have HO4 := ah o4; have HA9 := ah a9; have HM9 := ah m9; have HO9 := ah o9; have HBW : Hid (Below w.heap.size w W) := HBr.out.trans (hR.mono (by have := HBr.out.size; omega)); clear a4 m4 o4 a9 m9 o9 hR e4 e9 c3 c4 c7; go_wp2_with fail; refine bodyPost_ret (results_tmp3 rfl _ _ _) rfl ?_; refine ⟨l4, l9, 0, A4, cc4, A9, cc9, rfl, .ok HD0.out HPRL.out HNL.out HW.out HA4.out (fun d => ?_) HA9.out (fun d => ?_), ⟨Sl.of_own HO4.out, Sl.of_own HO9.out⟩, fun d hd => wW ((HM4.out d).1 hd).1, ⟨(lU HO4.out).1, (lU HO4.out).2, (lU HO9.out).1, (lU HO9.out).2⟩, by omega, by omega, HBW.out⟩
        . rw [HM4.out, HNE.out]
          exact ⟨fun h => h.2, fun h => ⟨dF (pR HPO.out HH.out h), h⟩⟩
        . rw [HM9.out, HED.out]
          exact ⟨fun h => h.2, fun h => ⟨dF (qB HPO.out HH.out h.1), h⟩⟩
   . intro d v w5 cnt2 hok hls hgs hR2 hlt hg5 hz5 hen
     have HR5 : Hid (GmR w5 Tryz.prog 42 dO bG bn w2.heap.size N (sv s.ne) (fun z => left z && !decide (z = d)) cnt2) := hR2; have hrn : ¬ isRow 132 wr.heap[w2.heap.size]? := hR.out.rNot; have HM5 : Hid (WkM w5 w1.heap.size ⟨b, pA', pn', pc', pre', bc, bn, be, bm⟩ com Nc N s) := HM.out.iter hg5 (by show w2.heap.size ≠ b; omega) (by show w2.heap.size ≠ bc; omega) (by show w2.heap.size ≠ bn; omega) (by show w2.heap.size ≠ be; omega) (by show w2.heap.size ≠ bm; omega) hrn; have HSND : Hid (s.ne d = true) := pJ hgs; have hbs := HBr.out.size; have HB5 : Hid (Below w.heap.size w w5) := HBr.out.grown hg5 hbs (fun g e => by cases e; have := HZ2.out; omega); have HP5 : Hid (Sl w5 B 3 pA pn (flat itC p)) := HPr.out.grown hg5 (by omega) (fun g e => by cases e; have := HZ2.out; omega); have hz5' : w2.heap.size < w5.heap.size := by omega
     have HPH := ah (fun W (h : Below w5.heap.size w5 W) => CU pA pn pc B p d W (HP5.out.below h (by have := HB5.out.size; omega)) (by have := h.size; have := HB5.out.size; omega) (by omega) HPO.out.asc); have HG : Hid ((bD p d).isSome = true -> ay p d ≠ none) := fun h1 h2 => by rw [getP_none.1 h2] at h1; cases h1
     have HG2 : Hid ((bD p d).isSome = false -> ay p d = none) := fun h1 => getP_none.2 (by cases h : bD p d with | none => rfl | some x => rw [h] at h1; cases h1); obtain ⟨bl, hbl⟩ : ∃ bl, (bD p d).isSome = bl := ⟨_, rfl⟩
     rw [hbl] at HG HG2; have HL2 : Hid (ay p d ≠ none -> ∀ x, bG x -> s.ne x = true -> (left x && !decide (x = d)) = false -> ay p x ≠ none) := fun h x h1 h2 h3 => by
      by_cases e : x = d
      . rw [e]; exact h
      . exact HL.out x h1 h2 (by simpa [e] using h3)
     obtain ⟨d1, d2⟩ := d; rw [hbl] at HPH; simp only [dgV] at hen; simp only [az] at HPH; clear hR2 hls hgs hok hg5 hz5 hR hrn hbl; obtain ⟨W6, hW6⟩ : ∃ W, w5.alloc (.cells #[.int .u64 d1, .int .u64 d2] 42) = W := ⟨_, rfl⟩
     have HK6 : Hid (Bk W6 w5.heap.size 42 #[.int .u64 d1, .int .u64 d2]) := by rw [<- hW6]; exact Bk.new w5 _ _
     have HB6 : Hid (Below w5.heap.size w5 W6) := by rw [<- hW6]; exact (Below.refl _ w5).alloc ai _
     have HC := ah (HPH.out W6 HB6.out); obtain ⟨q0, q1, _, _⟩ := HK6.out.two; go_wp2_with fail; refine HC.out.mono ?_; rintro e w7 ⟨rfl, hb7⟩; have HB7 : Hid (Below w5.heap.size w5 w7) := HB6.out.trans (hb7.mono HB6.out.size); have HBw7 : Hid (Below w.heap.size w w7) := HB5.out.trans (HB7.out.mono HB5.out.size); clear hb7 HC HPH q0 q1 hW6 HK6 HB6 hen; cases bl with
     | true =>
       have HR7 := ah (HR5.out.below HB7.out (by omega) hz5'); have HMS2 := ah HR7.out.left_; have HM7 := ah (HM5.out.below HB7.out); have HP7 := ah (HP5.out.below HB7.out (by have := HB5.out.size; omega)); have z7 := HB7.out.size; go_wp2_with fail; go_roundw
       case rel => exact ⟨_, cnt2, .inr trivial, HM7.out, HR7.out, HL2.out (HG.out (by simp)), HBw7.out, HP7.out, by omega⟩
       case measure => rw [HMS.out, HMS2.out]; exact hlt
     | false =>
       have HLK : Hid (dY p hs aF dep (toL pre)) := ⟨(d1, d2), (HNE.out _).1 HSND.out, HG2.out (by simp)⟩
       go_wp2_with fail; refine bodyPost_ret (results_tmp3 rfl _ _ _) rfl ?_; exact oJ (.lacks HD0.out HPRL.out HLK.out) HBw7.out
end
theorem kP {P : Program} {ops : Array Oper} {rest : List Oper} {o : Oper} {a : Act} {w : World} {Q : Exit -> Act -> World -> Prop} (s x : Operand) (t : TypeId) (_ : o.op = .call { callee := .builtin .append, args := #[s, x], argTypes := #[t, t] })
  (h : Hid (wpList P ops Q (o :: rest) a w)) : wpList P ops Q (o :: rest) a w := h
end Go.Proofs.YtlcecobipgmafaaGreatDoor
