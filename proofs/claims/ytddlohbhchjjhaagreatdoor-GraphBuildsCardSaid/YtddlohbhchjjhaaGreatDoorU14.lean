/-
  Lemmas: slices.SortFunc of files by their paths. The lists that GraphBuilds makes, in memory. What GraphBuilds' loops have made; in plain Lean. A region that draws its order, whose operations read or add to memory but for ONE, the m-th, which turns it (an append onto a row of one's own): whatever the order, each operation's value keeps its word. As in StabG. Drawn regions, one of whose operations makes a box.
-/
import Derived.Test.YtddlohbhchjjhaaGreatDoorU13

namespace Go.Proofs.YtddlohbhchjjhaaGreatDoor
open Go.RowKit Go.Shelf Go.Sort Go.Lib
attribute [local go_sem] Oper.semAt_some

instance : Inhabited Fl := ⟨(⟨#[]⟩, ⟨#[]⟩)⟩
def cfF (x y : Fl) : Int := if less x.1 y.1 = true then -1 else 1
theorem lt_cfF (x y : Fl) : ltOf cfF x y = less x.1 y.1 := by
  unfold ltOf cfF
  cases less x.1 y.1 <;> rfl
theorem swoF : SWO (ltOf cfF) where
  irrefl x := by rw [lt_cfF]; exact lessB_irrefl _
  trans x y z h1 h2 := by rw [lt_cfF] at *; exact lessB_trans h1 h2
  ntrans x y z h1 h2 := by
    rw [lt_cfF] at *
    cases h3 : less x.1 z.1 with
    | false => rfl
    | true =>
      cases h4 : less z.1 y.1 with
      | true => rw [lessB_trans h3 h4] at h1; cases h1
      | false =>
        have := lessB_conn h2 h4
        rw [this] at h1; rw [h1] at h3; cases h3
set_option maxHeartbeats 1000000 in
theorem bds2_any (x y : Fl) (W : World) : Calls Tryz.prog 43 #[.agg (flC x).toArray, .agg (flC y).toArray] W fun e w' => e = .returned (.int .i64 (cfF x y)) ∧ ∃ q os', w' = grow (W.drewN q) os' := by
  obtain ⟨a, a1⟩ := x
  obtain ⟨b, b1⟩ := y
  simp only [cfF, flC]
  have t1 := less_str a b
  go_enter Tryz.func43, Tryz.ntmps43
  cases hl : less a b with
  | true =>
    rw [hl] at t1
    go_wp2_with fail
    go_ret
    exact ⟨rfl, 0, _, by rw [alloc_eq_grow, alloc_eq_grow, grow_grow]; rfl⟩
  | false =>
    rw [hl] at t1
    go_wp2_with fail
    go_ret
    exact ⟨rfl, 0, _, by rw [alloc_eq_grow, alloc_eq_grow, grow_grow]; rfl⟩
theorem flatK_flatF (ts : List Fl) : (flatK flC 2 ts.toArray).toList = flat flC ts := by
  apply List.ext_getElem?
  intro t
  by_cases ht : t < ts.length * 2
  · have hk : t / 2 < ts.length := by omega
    have hx : ts[t / 2]? = some ts[t / 2] := List.getElem?_eq_getElem hk
    have h1 := flat_get flC_len ts (t / 2) (t % 2) _ hx (by omega)
    rw [show t / 2 * 2 + t % 2 = t by omega] at h1
    have h2 : t < (flatK flC 2 ts.toArray).size := by simpa using ht
    rw [h1, Array.getElem?_toList, Array.getElem?_eq_getElem h2]
    have h3 := get_flatK flC 2 ts.toArray t (by simpa using ht)
    rw [getElem!_pos (flatK flC 2 ts.toArray) t h2] at h3
    rw [h3, show ts.toArray[t / 2]! = ts[t / 2] by simp [hk]]
    have h4 : t % 2 < (flC ts[t / 2]).length := by rw [flC_len]; omega
    rw [getElem!_pos (flC ts[t / 2]) (t % 2) h4, List.getElem?_eq_getElem h4]
  · rw [List.getElem?_eq_none (by simp; omega), List.getElem?_eq_none (by rw [flat_len flC_len]; omega)]
def SrtF (ts : List Fl) : Prop := ts.Pairwise (fun a b => less b.1 a.1 = false)
theorem own_lenF {w : World} {base n c : Nat} {A : Option Addr} {e : TypeId} {ts : List Fl} (h : w.ownsRow base e 2 (.slice A n c) n (flat flC ts)) : ts.length = n := by
  have := h.1; rw [flat_len flC_len] at this; omega
set_option maxHeartbeats 1000000 in
theorem sortFil_any (base n c : Nat) (A : Option Addr) (ts : List Fl) (w : World) (h : w.ownsRow base 42 2 (.slice A n c) n (flat flC ts)) (hn : n ≤ 1000000) :
    Calls Tryz.prog 42 #[.slice A n c, .func (.func 43) #[] #[]] w fun e w' => e = .returned (.tuple #[]) ∧ ∃ us, us.Perm ts ∧ SrtF us ∧ w'.ownsRow base 42 2 (.slice A n c) n (flat flC us) ∧ w.grownBy w' (Value.slice A n c).ownBlock := by
  have hl := own_lenF h
  have eg : ∀ args w, (callFunc 43 args).run Tryz.prog w = .ok (.enter 43 args) w := enters_of Tryz.func43 (by kernel_rfl) rfl
  rcases h.2 with ⟨hv, h0⟩ | ⟨g, cap, cur, hv, h1, h2, h3, h4, h5, h6⟩
  · simp only [Value.slice.injEq] at hv
    obtain ⟨rfl, _, rfl⟩ := hv
    subst h0
    obtain rfl : ts = [] := List.eq_nil_of_length_eq_zero hl
    have hc := AnyF.slices_SortFunc_none Tryz.sortFil none 0 (.func (.func 43) #[] #[]) w
    change Calls Tryz.prog 42 _ _ _ at hc
    refine hc.mono ?_
    rintro e w' ⟨rfl, rfl⟩
    exact ⟨rfl, [], .refl _, List.Pairwise.nil, h, rfl, rfl, rfl, Nat.le_refl _, fun _ _ _ => rfl⟩
  · simp only [Value.slice.injEq] at hv
    obtain ⟨rfl, _, rfl⟩ := hv
    have hsz : n * 2 ≤ cur.size := by omega
    have hlt := (Array.getElem?_eq_some_iff.1 h2).1
    have hH : HoldsK flC 2 w g 0 ts.toArray := by
      intro j hj
      have hj' : j < ts.length * 2 := by simpa using hj
      refine ⟨?_, by simp [World.frozen?, h2]⟩
      have h7 : (flat flC ts)[j]? = some ((flatK flC 2 ts.toArray)[j]!) := by
        rw [← flatK_flatF, Array.getElem?_toList, Array.getElem?_eq_getElem (by simpa using hj'), getElem!_pos (flatK flC 2 ts.toArray) j (by simpa using hj')]
      rw [← h6, List.getElem?_take, if_pos (by omega)] at h7
      show w.cell? ⟨g, 0 + j, none⟩ = _
      simp [World.cell?, h2]
      simpa using h7
    have hc := AnyQ.slices_SortFunc Tryz.sortFil 2 Tryz.isAgg42 Tryz.sizeOf42 flC flC_len (fun x v hv => by simp [flC] at hv; rcases hv with rfl | rfl <;> rfl) cfF swoF 43 #[] g 0 c ts.toArray w eg (fun _ _ _ _ x y => bds2_any x y _) hH hlt (by simp; omega)
    change Calls Tryz.prog 42 _ _ _ at hc
    rw [List.size_toArray, hl] at hc
    refine hc.mono ?_
    rintro e w' ⟨rfl, d', k, os, hp, hs, rfl⟩
    have hd : d'.size = n := by rw [hp.1]; simpa using hl
    have hpp : d'.toList.Perm ts := by
      have := hp.2.2
      have e1 : d'.extract 0 n = d' := by rw [← hd]; simp
      have e2 : ts.toArray.extract 0 n = ts.toArray := by rw [← hl]; simp
      rw [e1, e2] at this
      simpa using this
    have hso : SrtF d'.toList := by
      unfold SrtF
      rw [List.pairwise_iff_getElem]
      intro i j hi hj hij
      have hi' : i < d'.size := by simpa using hi
      have hj' : j < d'.size := by simpa using hj
      have := hs i j (Nat.zero_le _) hij (by omega)
      rw [lt_cfF, getElem!_pos d' j hj', getElem!_pos d' i hi'] at this
      simpa using this
    have hfs : (flatK flC 2 d').size = n * 2 := by rw [size_flatK, hd]
    refine ⟨rfl, d'.toList, hpp, hso, ⟨by rw [flat_len flC_len, Array.length_toList, hd], .inr ⟨g, c, putCells id 0 (flatK flC 2 d') cur, rfl, h1, ?_, h3, h4, by simp [putCells]; omega, ?_⟩⟩, rfl, rfl, rfl, by simp [sortWorldK, putRowK, grow, putRow, mapBlock, Sort.ahead], fun b hb hr => ?_⟩
    · simp only [sortWorldK, putRowK, grow, putRow, mapBlock, Sort.ahead]
      rw [Array.getElem?_append_left (by simpa using hlt), Array.getElem?_modify, if_pos rfl, h2]
      rfl
    · rw [putCells_takeK 0 (n * 2) _ cur hfs rfl hsz, ← flatK_flatF]
    · simp only [sortWorldK, putRowK, grow, putRow, mapBlock, Sort.ahead]
      rw [Array.getElem?_append_left (by simpa using hb), Array.getElem?_modify, if_neg (fun e => hr (by rw [e]; rfl))]
end Go.Proofs.YtddlohbhchjjhaaGreatDoor

namespace Go.Proofs.YtddlohbhchjjhaaGreatDoor
open Go.RowKit Go.Shelf

def rlT (t : Tg) : Tg := { t with lab := nmS t.lab }
theorem TgOk.rlT {w : World} {B : Nat} {t : Tg} (h : TgOk w B t) : TgOk w B (rlT t) := ⟨h.d, h.dle, h.dmax, h.v, h.vle, h.vmax, Nat.le_trans (nmS_size _) h.ls, h.ds, h.vs⟩
theorem grownBy_set (W : World) (a : Addr) (u : Value) : W.grownBy (W.setCell a u) (some a.block) :=
  ⟨rfl, rfl, rfl, by simp [World.setCell], fun k _ hne => Below.heap_setCell W a u k (fun e => hne (by rw [e]))⟩
theorem own_below {w w' : World} {base size n : Nat} {e : TypeId} {v : Value} {xs : List Value} (h : w.ownsRow base e size v n xs) (hb : Below w.heap.size w w') : w'.ownsRow base e size v n xs :=
  h.kept (row := none) ⟨hb.os, hb.tape, hb.output, hb.size, fun k hk _ => hb.block k hk⟩ (by cases hv : v.ownBlock with | none => exact .inl rfl | some k => exact .inr (by simp))
theorem own_set {w : World} {base size n : Nat} {e : TypeId} {v : Value} {xs : List Value} (h : w.ownsRow base e size v n xs) (a : Addr) (u : Value) (ha : v.ownBlock ≠ some a.block) : (w.setCell a u).ownsRow base e size v n xs :=
  h.kept (grownBy_set w a u) (.inr ha)
theorem own_ne {w : World} {base size n g : Nat} {e e' : TypeId} {v : Value} {xs : List Value} {cur : Array Value} (h : w.ownsRow base e size v n xs) (hg : w.heap[g]? = some (.cells cur e' (0, 0))) (hne : e ≠ e') : v.ownBlock ≠ some g := fun he => by
  rcases h.2 with ⟨rfl, _⟩ | ⟨g', cap, cur', rfl, _, hh, _⟩
  · cases he
  · simp only [Value.ownBlock, Option.some.injEq] at he
    subst he
    rw [hg] at hh
    injection hh with hh
    injection hh with _ ht
    exact hne ht.symm
structure BdS (B0 : Nat) (W : World) (ds : List ByteArray) (rss : List (List Tg)) (fs : List Fl) (Ad : Option Addr) (nd cd : Nat) (Ar : Option Addr) (nr cr : Nat) (Af : Option Addr) (nf cf : Nat) (vs : List Value) : Prop where
  d : Apd W B0 9 1 Ad nd cd (strs ds)
  r : Apd W B0 58 1 Ar nr cr vs
  f : Apd W B0 42 2 Af nf cf (flat flC fs)
  vl : vs.length = rss.length
  iv : ∀ (j : Nat) (v : Value) (rs : List Tg), vs[j]? = some v → rss[j]? = some rs → W.ownsRow B0 60 4 v rs.length (flat rlC rs)
  ap : ∀ (i j k : Nat) (u v : Value), vs[i]? = some u → vs[j]? = some v → u.ownBlock = some k → v.ownBlock = some k → i = j
  ok : ∀ rs ∈ rss, ∀ r ∈ rs, TgOk W B0 r
  le : B0 ≤ W.heap.size
section
variable {B0 : Nat} {W W' : World} {ds : List ByteArray} {rss : List (List Tg)} {fs : List Fl} {Ad Ar Af : Option Addr} {nd cd nr cr nf cf : Nat} {vs : List Value}
theorem BdS.start (h : B0 ≤ W.heap.size) : BdS B0 W [] [] [] Ad 0 0 Ar 0 0 Af 0 0 [] :=
  ⟨.inr ⟨rfl, rfl, rfl⟩, .inr ⟨rfl, rfl, rfl⟩, .inr ⟨rfl, rfl, rfl⟩, rfl, (fun j v rs h => by simp at h), (fun i j k u v h => by simp at h), (fun rs h => by cases h), h⟩
theorem BdS.dlen (h : BdS B0 W ds rss fs Ad nd cd Ar nr cr Af nf cf vs) : ds.length = nd := by have := h.d.sl.1; rw [strs_len] at this; omega
theorem BdS.vlen (h : BdS B0 W ds rss fs Ad nd cd Ar nr cr Af nf cf vs) : vs.length = nr := by have := h.r.sl.1; omega
theorem BdS.rlen (h : BdS B0 W ds rss fs Ad nd cd Ar nr cr Af nf cf vs) : rss.length = nr := by rw [← h.vl]; exact h.vlen
theorem BdS.flen (h : BdS B0 W ds rss fs Ad nd cd Ar nr cr Af nf cf vs) : fs.length = nf := by have := h.f.sl.1; rw [flat_len flC_len] at this; omega
theorem BdS.below (h : BdS B0 W ds rss fs Ad nd cd Ar nr cr Af nf cf vs) (hb : Below W.heap.size W W') : BdS B0 W' ds rss fs Ad nd cd Ar nr cr Af nf cf vs :=
  ⟨h.d.below hb, h.r.below hb, h.f.below hb, h.vl, fun j v rs h1 h2 => own_below (h.iv j v rs h1 h2) hb, h.ap, fun rs h1 r h2 => (h.ok rs h1 r h2).below hb h.le, Nat.le_trans h.le hb.size⟩
theorem BdS.addD (h : BdS B0 W ds rss fs Ad nd cd Ar nr cr Af nf cf vs) {A : Option Addr} {n c : Nat} {ds' : List ByteArray} (ha : Apd W' B0 9 1 A n c (strs ds')) (hb : Below B0 W W') (ho : OthersKept 9 W W') :
    BdS B0 W' ds' rss fs A n c Ar nr cr Af nf cf vs :=
  ⟨ha, h.r.elim (fun g => .inl (ho _ _ _ _ _ _ (by decide) g)) .inr, h.f.elim (fun g => .inl (ho _ _ _ _ _ _ (by decide) g)) .inr, h.vl, fun j v rs h1 h2 => ho _ _ _ _ _ _ (by decide) (h.iv j v rs h1 h2), h.ap, fun rs h1 r h2 => (h.ok rs h1 r h2).below hb (Nat.le_refl _), Nat.le_trans h.le hb.size⟩
theorem BdS.addF (h : BdS B0 W ds rss fs Ad nd cd Ar nr cr Af nf cf vs) {A : Option Addr} {n c : Nat} {fs' : List Fl} (ha : Apd W' B0 42 2 A n c (flat flC fs')) (hb : Below B0 W W') (ho : OthersKept 42 W W') :
    BdS B0 W' ds rss fs' Ad nd cd Ar nr cr A n c vs :=
  ⟨h.d.elim (fun g => .inl (ho _ _ _ _ _ _ (by decide) g)) .inr, h.r.elim (fun g => .inl (ho _ _ _ _ _ _ (by decide) g)) .inr, ha, h.vl, fun j v rs h1 h2 => ho _ _ _ _ _ _ (by decide) (h.iv j v rs h1 h2), h.ap, fun rs h1 r h2 => (h.ok rs h1 r h2).below hb (Nat.le_refl _), Nat.le_trans h.le hb.size⟩
theorem BdS.addR (h : BdS B0 W ds rss fs Ad nd cd Ar nr cr Af nf cf vs) {A : Option Addr} {n c : Nat} (ha : Apd W' B0 58 1 A n c (vs ++ [.slice none 0 0])) (hb : Below B0 W W') (ho : OthersKept 58 W W') :
    BdS B0 W' ds (rss ++ [[]]) fs Ad nd cd A n c Af nf cf (vs ++ [.slice none 0 0]) := by
  refine ⟨h.d.elim (fun g => .inl (ho _ _ _ _ _ _ (by decide) g)) .inr, ha, h.f.elim (fun g => .inl (ho _ _ _ _ _ _ (by decide) g)) .inr, by simp [h.vl], fun j v rs h1 h2 => ?_, fun i j k u v h1 h2 h3 h4 => ?_, fun rs h1 r h2 => ?_, Nat.le_trans h.le hb.size⟩
  · by_cases hj : j < vs.length
    · rw [List.getElem?_append_left hj] at h1
      rw [List.getElem?_append_left (by rw [← h.vl]; exact hj)] at h2
      exact ho _ _ _ _ _ _ (by decide) (h.iv j v rs h1 h2)
    · rw [List.getElem?_append_right (by omega)] at h1
      rw [List.getElem?_append_right (by rw [← h.vl]; omega), ← h.vl] at h2
      obtain ⟨m, hm⟩ : ∃ m, j - vs.length = m := ⟨_, rfl⟩
      rw [hm] at h1 h2
      match m, h1, h2 with
      | 0, h1, h2 =>
        simp at h1 h2
        subst h1; subst h2
        exact World.ownsRow_nil _ _ _ _
      | m + 1, h1, h2 => simp at h1
  · have key : ∀ (i : Nat) (u : Value) (k : Nat), (vs ++ [Value.slice none 0 0])[i]? = some u → u.ownBlock = some k → vs[i]? = some u := fun i u k h1 h3 => by
      by_cases hi : i < vs.length
      · rwa [List.getElem?_append_left hi] at h1
      · rw [List.getElem?_append_right (by omega)] at h1
        obtain ⟨m, hm⟩ : ∃ m, i - vs.length = m := ⟨_, rfl⟩
        rw [hm] at h1
        match m, h1 with
        | 0, h1 => simp at h1; subst h1; cases h3
        | m + 1, h1 => simp at h1
    exact h.ap i j k u v (key i u k h1 h3) (key j v k h2 h4) h3 h4
  · rcases List.mem_append.1 h1 with h1 | h1
    · exact (h.ok rs h1 r h2).below hb (Nat.le_refl _)
    · rw [List.mem_singleton.1 h1] at h2; cases h2
theorem BdS.at_ (h : BdS B0 W ds rss fs Ad nd cd Ar nr cr Af nf cf vs) {k : Nat} (hk : k < nr) :
    ∃ gr Ai ni ci rs, Ar = some ⟨gr, 0, none⟩ ∧ B0 ≤ gr ∧ gr < W.heap.size ∧ vs[k]? = some (.slice Ai ni ci) ∧ rss[k]? = some rs ∧ rs.length = ni ∧ ni ≤ ci ∧ ci ≤ maxLen ∧ W.ownsRow B0 60 4 (.slice Ai ni ci) ni (flat rlC rs) ∧ W.cell? ⟨gr, k, none⟩ = some (.slice Ai ni ci) ∧ W.frozen? ⟨gr, k, none⟩ = false := by
  have hl := h.vlen
  have hl2 := h.rlen
  have hr := h.r
  rcases hr with hr | ⟨h0, _⟩
  · obtain ⟨g, cap, e, hb, hlt⟩ := hr.form (by omega)
    simp only [Value.slice.injEq] at e
    obtain ⟨rfl, _, rfl⟩ := e
    have hv : vs[k]? = some (vs[k]'(by omega)) := List.getElem?_eq_getElem _
    have hrs : rss[k]? = some (rss[k]'(by omega)) := List.getElem?_eq_getElem _
    obtain ⟨v, hv'⟩ : ∃ v, vs[k]'(by omega) = v := ⟨_, rfl⟩
    obtain ⟨rs, hrs'⟩ : ∃ rs, rss[k]'(by omega) = rs := ⟨_, rfl⟩
    rw [hv'] at hv; rw [hrs'] at hrs
    have ho := h.iv k v rs hv hrs
    obtain ⟨Ai, ci, rfl, h1, h2⟩ := ownsRow_form ho
    exact ⟨g, Ai, rs.length, ci, rs, rfl, hb, hlt, hv, hrs, rfl, h1, h2, ho, by rw [hr.cellAt k (by omega)]; exact hv, hr.frozenAt k⟩
  · omega
theorem BdS.addI {W1 : World} (h : BdS B0 W ds rss fs Ad nd cd Ar nr cr Af nf cf vs) {k gr ni ci : Nat} {Ai : Option Addr} {rs : List Tg} {r : Tg} (hA : Ar = some ⟨gr, 0, none⟩) (hk : k < nr) (hv : vs[k]? = some (.slice Ai ni ci)) (hr : rss[k]? = some rs) (hok : TgOk W B0 r)
    {g cap : Nat} (hn : rs.length = ni) (ho : W1.ownsRow B0 60 4 (.slice (some ⟨g, 0, none⟩) (ni + 1) cap) (ni + 1) (flat rlC rs ++ rlC r)) (hg : W.grownBy W1 (Value.slice Ai ni ci).ownBlock) (hat : (Value.slice Ai ni ci).ownBlock = some g ∨ g = W.heap.size) :
    BdS B0 (W1.setCell ⟨gr, k, none⟩ (.slice (some ⟨g, 0, none⟩) (ni + 1) cap)) ds (rss.set k (rs ++ [r])) fs Ad nd cd Ar nr cr Af nf cf (vs.set k (.slice (some ⟨g, 0, none⟩) (ni + 1) cap)) ∧
    Below B0 W (W1.setCell ⟨gr, k, none⟩ (.slice (some ⟨g, 0, none⟩) (ni + 1) cap)) ∧
    ∀ (base size n : Nat) (e : TypeId) (v : Value) (xs : List Value), e ≠ 60 → e ≠ 58 → W.ownsRow base e size v n xs → (W1.setCell ⟨gr, k, none⟩ (.slice (some ⟨g, 0, none⟩) (ni + 1) cap)).ownsRow base e size v n xs := by
  subst hA; subst hn
  have hl := h.vlen
  have hown := h.iv k _ rs hv hr
  -- the outer row
  have hR : W.ownsRow B0 58 1 (.slice (some ⟨gr, 0, none⟩) nr cr) nr vs := by
    rcases h.r with h' | ⟨h0, _⟩
    · exact h'
    · omega
  have hR1 : W1.ownsRow B0 58 1 (.slice (some ⟨gr, 0, none⟩) nr cr) nr vs := hR.kept hg (ownsRow_apart hown hR (by decide))
  obtain ⟨cur, hcur⟩ : ∃ cur, W1.heap[gr]? = some (.cells cur 58 (0, 0)) := by
    rcases hR1.2 with ⟨hc, _⟩ | ⟨g', cap', cur, hc, _, hh, _⟩
    · simp at hc
    · simp at hc
      obtain ⟨rfl, _⟩ := hc
      exact ⟨cur, hh⟩
  have hBk : ∀ j, (Value.slice Ai rs.length ci).ownBlock = some j → B0 ≤ j := fun j hj => (hown.lt j hj).1
  have hB1 : Below B0 W W1 := (Below.refl B0 W).grown hg h.le hBk
  have hgr : B0 ≤ gr := (hR.lt gr rfl).1
  have hB2 : Below B0 W (W1.setCell ⟨gr, k, none⟩ (.slice (some ⟨g, 0, none⟩) (rs.length + 1) cap)) := hB1.setCell (p := ⟨gr, k, none⟩) hgr _
  have oth : ∀ (base size n : Nat) (e : TypeId) (v : Value) (xs : List Value), e ≠ 60 → e ≠ 58 → W.ownsRow base e size v n xs → (W1.setCell ⟨gr, k, none⟩ (.slice (some ⟨g, 0, none⟩) (rs.length + 1) cap)).ownsRow base e size v n xs := fun base size n e v xs h1 h2 h3 => by
    have h4 := h3.kept hg (ownsRow_apart hown h3 h1)
    exact own_set h4 _ _ (own_ne h4 hcur h2)
  have hlt : ∀ (j : Nat) (u : Value), vs[j]? = some u → ∀ b, u.ownBlock = some b → b < W.heap.size := fun j u hj b hb => by
    have hj' : j < rss.length := by rw [← h.vl]; exact (List.getElem?_eq_some_iff.1 hj).1
    exact ((h.iv j u _ hj (List.getElem?_eq_getElem hj')).lt b hb).2
  refine ⟨⟨?_, ?_, ?_, ?_, fun j v rs' h1 h2 => ?_, fun i j b u v h1 h2 h3 h4 => ?_, fun rs' h1 r' h2 => ?_, Nat.le_trans h.le hB2.size⟩, hB2, oth⟩
  · exact h.d.elim (fun g => .inl (oth _ _ _ _ _ _ (by decide) (by decide) g)) .inr
  · exact .inl (hR1.stored k _).1
  · exact h.f.elim (fun g => .inl (oth _ _ _ _ _ _ (by decide) (by decide) g)) .inr
  · rw [List.length_set, List.length_set]; exact h.vl
  · by_cases hj : k = j
    · subst hj
      rw [List.getElem?_set_self (by omega)] at h1
      rw [List.getElem?_set_self (by rw [← h.vl]; omega)] at h2
      cases h1; cases h2
      have e : flat rlC (rs ++ [r]) = flat rlC rs ++ rlC r := by rw [flat_append]; simp [flat]
      rw [e, List.length_append, List.length_singleton]
      exact own_set ho _ _ (own_ne ho hcur (by decide))
    · rw [List.getElem?_set_ne hj] at h1 h2
      have h3 := h.iv j v rs' h1 h2
      have h4 := h3.kept hg (by
        cases hb : v.ownBlock with
        | none => exact .inl rfl
        | some b => exact .inr fun e => hj (h.ap k j b _ v hv h1 e.symm hb))
      exact own_set h4 _ _ (own_ne h4 hcur (by decide))
  · have new : ∀ (j : Nat) (v : Value), k ≠ j → vs[j]? = some v → v.ownBlock = some g → False := fun j v hj h1 h2 => by
      rcases hat with hat | hat
      · exact hj (h.ap k j g _ v hv h1 hat h2)
      · have := hlt j v h1 g h2; omega
    by_cases hi : k = i
    · by_cases hj : k = j
      · rw [← hi, ← hj]
      · subst hi
        rw [List.getElem?_set_self (by omega)] at h1
        cases h1
        rw [List.getElem?_set_ne hj] at h2
        simp only [Value.ownBlock, Option.some.injEq] at h3
        exact (new j v hj h2 (by rw [h4, h3])).elim
    · by_cases hj : k = j
      · subst hj
        rw [List.getElem?_set_self (by omega)] at h2
        cases h2
        rw [List.getElem?_set_ne hi] at h1
        simp only [Value.ownBlock, Option.some.injEq] at h4
        exact (new i u hi h1 (by rw [h3, h4])).elim
      · rw [List.getElem?_set_ne hi] at h1
        rw [List.getElem?_set_ne hj] at h2
        exact h.ap i j b u v h1 h2 h3 h4
  · rcases List.mem_or_eq_of_mem_set h1 with h1 | rfl
    · exact (h.ok rs' h1 r' h2).below hB2 (Nat.le_refl _)
    · rcases List.mem_append.1 h2 with h2 | h2
      · exact (h.ok rs (List.mem_of_getElem? hr) r' h2).below hB2 (Nat.le_refl _)
      · rw [List.mem_singleton.1 h2]; exact hok.below hB2 (Nat.le_refl _)
end
def TBox (B0 : Nat) (W : World) (b : Nat) (t : Tg) : Prop := W.ownsRow B0 35 4 (.slice (some ⟨b, 0, none⟩) 1 1) 1 (tgC t)
theorem TBox.of {B0 : Nat} {W : World} {b : Nat} {t : Tg} (h : Bk W b 35 #[.string t.lab, .int .i64 t.kind, .slice t.dA t.dn t.dc, .slice t.vA t.vn t.vc]) (hb : B0 ≤ b) : TBox B0 W b t :=
  ⟨rfl, .inr ⟨b, 1, _, rfl, hb, h, Nat.le_refl _, by decide, rfl, rfl⟩⟩
theorem TBox.cells {B0 : Nat} {W : World} {b : Nat} {t : Tg} (h : TBox B0 W b t) : W.cell? ⟨b, 0, none⟩ = some (.string t.lab) ∧ W.cell? ⟨b, 1, none⟩ = some (.int .i64 t.kind) ∧ W.cell? ⟨b, 2, none⟩ = some (.slice t.dA t.dn t.dc) ∧ W.cell? ⟨b, 3, none⟩ = some (.slice t.vA t.vn t.vc) := by
  refine ⟨?_, ?_, ?_, ?_⟩ <;> (rw [World.ownsRow.cellAt h _ (by decide)]; rfl)
theorem TBox.kept {B0 : Nat} {W W' : World} {b : Nat} {t : Tg} {e : TypeId} (h : TBox B0 W b t) (ho : OthersKept e W W') (he : 35 ≠ e) : TBox B0 W' b t := ho _ _ _ _ _ _ he h
theorem TBox.below {B0 : Nat} {W W' : World} {b : Nat} {t : Tg} (h : TBox B0 W b t) (hb : Below W.heap.size W W') : TBox B0 W' b t := own_below h hb
theorem TgOk.up {w : World} {B B' : Nat} {t : Tg} (h : TgOk w B t) (hB : B ≤ B') : TgOk w B' t := ⟨h.d.more hB, h.dle, h.dmax, h.v.more hB, h.vle, h.vmax, h.ls, h.ds, h.vs⟩
theorem infoRls : (Tryz.prog.info? 58).map (fun i => (i.zero, i.size, i.bytes)) = some (some (.slice none 0 0), 1, 24) := by kernel_rfl
theorem infoFlB : (Tryz.prog.info? 42).map (fun i => (i.zero, i.size, i.bytes)) = some (some (.agg #[.string ⟨#[]⟩, .string ⟨#[]⟩]), 2, 32) := by kernel_rfl
def AdI (B0 : Nat) (W : World) (ds : List ByteArray) (rss : List (List Tg)) (fs : List Fl) (Ad : Option Addr) (nd cd gr nr cr : Nat) (Af : Option Addr) (nf cf : Nat) (vs : List Value) (k : Nat) (Ai : Option Addr) (ni ci : Nat) (rs : List Tg) (r : Tg) (bt : Nat) (t0 : Tg) (v : Value) (w1 : World) : Prop :=
  ∃ g cap, v = .slice (some ⟨g, 0, none⟩) (ni + 1) cap ∧ w1.cell? ⟨gr, k, none⟩ = some (.slice Ai ni ci) ∧ w1.frozen? ⟨gr, k, none⟩ = false ∧
    BdS B0 (w1.setCell ⟨gr, k, none⟩ (.slice (some ⟨g, 0, none⟩) (ni + 1) cap)) ds (rss.set k (rs ++ [r])) fs Ad nd cd (some ⟨gr, 0, none⟩) nr cr Af nf cf (vs.set k (.slice (some ⟨g, 0, none⟩) (ni + 1) cap)) ∧
    Below B0 W (w1.setCell ⟨gr, k, none⟩ (.slice (some ⟨g, 0, none⟩) (ni + 1) cap)) ∧ TBox B0 (w1.setCell ⟨gr, k, none⟩ (.slice (some ⟨g, 0, none⟩) (ni + 1) cap)) bt t0
theorem gives_addI {P : Program} {w : World} {o : Oper} {a : Act} {Ψ : Value → World → Prop} (s x : Operand) (t : TypeId)
    (ho : o.op = .call { callee := .builtin .append, args := #[s, x], argTypes := #[t, t] })
    (i : TypeInfo) (z : Value) (ht : P.underlying t = some (.slice 60)) (hi : P.info? 60 = some i) (hz : i.zero = some z)
    (hsize : i.size = 4) (hby : i.bytes = 72) (hzs : z.cells.size = 4)
    {B0 gr nd cd nr cr nf cf k ni ci bt : Nat} {W : World} {ds : List ByteArray} {rss : List (List Tg)} {fs : List Fl} {Ad Af Ai : Option Addr} {vs : List Value} {rs : List Tg} {r t0 : Tg}
    (hW : Below W.heap.size W w) (h : BdS B0 W ds rss fs Ad nd cd (some ⟨gr, 0, none⟩) nr cr Af nf cf vs) (hk : k < nr) (hv : vs[k]? = some (.slice Ai ni ci)) (hr : rss[k]? = some rs) (hn : rs.length = ni) (hok : TgOk W B0 r) (hbt : TBox B0 W bt t0)
    (hs : a.eval s = .slice Ai ni ci) {bl : Nat} (hx : a.eval x = .slice (some ⟨bl, 0, none⟩) 1 1) (hl : Bk w bl 60 (rlC r).toArray) (h63 : ni ≤ 1000000)
    (hK : ∀ v w1, AdI B0 W ds rss fs Ad nd cd gr nr cr Af nf cf vs k Ai ni ci rs r bt t0 v w1 → TBox B0 w1 bt t0 → (∀ b, W.heap.size ≤ b → b < w.heap.size → w1.heap[b]? = w.heap[b]?) → Ψ v w1) :
    Gives P o a w Ψ := fun K Q hK' => by
  have hS := h.below hW
  have hiv0 := h.iv k _ rs hv hr
  have hiv := hS.iv k _ rs hv hr
  rw [hn] at hiv
  have hB0 := hS.le
  refine wp_append_lies w s x t ho B0 60 i z 4 72 ht hi hz hsize hby hzs (by decide) (.slice Ai ni ci) ni (flat rlC rs) hs hiv ⟨bl, 0, none⟩ 1 1 (rlC r) hx rfl (fun j u hu => ?_) (fun u hu => ?_) (by decide) (by unfold maxLen; omega) (by omega) hB0 w.heap.size rfl ?_
  · rw [Addr.add_lit, Nat.zero_add, hl.cell, List.getElem?_toArray]; exact hu
  · simp [rlC] at hu
    rcases hu with rfl | rfl | rfl | rfl <;> rfl
  intro g cap w1 hown hgrow hat _
  obtain ⟨h1, h2, h3⟩ := hS.addI rfl hk hv hr (hok.below hW h.le) hn hown hgrow hat
  have hR : w.ownsRow B0 58 1 (.slice (some ⟨gr, 0, none⟩) nr cr) nr vs := by
    rcases hS.r with h' | ⟨h0, _⟩
    · exact h'
    · omega
  have hR1 := hR.kept hgrow (ownsRow_apart hiv hR (by decide))
  have hbw := hbt.below hW
  refine hK' _ _ (hK _ _ ⟨g, cap, rfl, by rw [hR1.cellAt k (by omega)]; exact hv, hR1.frozenAt k, h1, (hW.mono h.le).trans h2, h3 _ _ _ _ _ _ (by decide) (by decide) hbw⟩ (World.ownsRow.kept hbw hgrow (ownsRow_apart hiv hbw (by decide))) fun b hb1 hb2 => hgrow.block b hb2 fun e => ?_)
  have := (hiv0.lt b e.symm).2
  omega
theorem sortApd_any (base n c : Nat) (A : Option Addr) (ts : List Fl) (w : World) (h : Apd w base 42 2 A n c (flat flC ts)) (hb : base ≤ w.heap.size) (hn : n ≤ 1000000) :
    Calls Tryz.prog 42 #[.slice A n c, .func (.func 43) #[] #[]] w fun e w' => e = .returned (.tuple #[]) ∧ ∃ us, us.Perm ts ∧ SrtF us ∧ Sl w' w'.heap.size 2 A n (flat flC us) ∧ Below base w w' := by
  rcases h with h | ⟨rfl, rfl, h0⟩
  · refine (sortFil_any base n c A ts w h hn).mono ?_
    rintro e w' ⟨rfl, us, h1, h2, h3, h4⟩
    exact ⟨rfl, us, h1, h2, Sl.of_own h3, (Below.refl base w).grown h4 hb (fun k hk => ownBlock_ge h k hk)⟩
  · obtain rfl : ts = [] := by
      cases ts with
      | nil => rfl
      | cons x xs => simp [flat, flC] at h0
    have hc := AnyF.slices_SortFunc_none Tryz.sortFil A 0 (.func (.func 43) #[] #[]) w
    change Calls Tryz.prog 42 _ _ _ at hc
    refine hc.mono ?_
    rintro e w' ⟨rfl, rfl⟩
    exact ⟨rfl, [], .refl _, List.Pairwise.nil, Sl.nil _ _ _ _, Below.refl _ _⟩
end Go.Proofs.YtddlohbhchjjhaaGreatDoor

namespace Go.Proofs.YtddlohbhchjjhaaGreatDoor
open Go.RowKit Go.Shelf

theorem len_flatMap {α β : Type} {f : α → List β} : ∀ {l : List α} {x : α}, x ∈ l → (f x).length ≤ (l.flatMap f).length
  | a :: l, x, h => by
    rw [List.flatMap_cons, List.length_append]
    rcases List.mem_cons.1 h with rfl | h
    · omega
    · have := len_flatMap (f := f) h; omega
theorem BdP.sum {ts : List Tg} {k j : Nat} {dirs : List ByteArray} {rules : List (List Ct)} {rs : List Ct} (h : BdP ts k dirs rules) (hr : rules[j]? = some rs) : rs.length ≤ k := by
  have hj : j < dirs.length := by rw [← h.len]; exact (List.getElem?_eq_some_iff.1 hr).1
  have hz : (dirs[j], rs) ∈ dirs.zip rules := List.mem_of_getElem? (i := j) (by rw [List.getElem?_zip_eq_some]; exact ⟨List.getElem?_eq_getElem hj, hr⟩)
  have h1 := len_flatMap (f := fun p : ByteArray × List Ct => p.2.map (jnC p.1)) hz
  have h2 := h.perm.length_eq
  unfold gath at h2
  rw [h2, List.length_map, List.length_map, List.length_take] at h1
  simp only at h1
  omega
theorem BdP.dsz {ts : List Tg} {k j : Nat} {dirs : List ByteArray} {rules : List (List Ct)} {d : ByteArray} (h : BdP ts k dirs rules) (hd : dirs[j]? = some d) : d.size ≤ 90 := by
  rcases h.dir d (List.mem_of_getElem? hd) with rfl | h
  · exact Nat.zero_le _
  · exact labB_size h
theorem BdP.few {ts : List Tg} {k : Nat} {dirs : List ByteArray} {rules : List (List Ct)} (h : BdP ts k dirs rules) (hne : ∀ rs ∈ rules, rs ≠ []) : dirs.length ≤ k := by
  have h2 := h.perm.length_eq
  rw [List.length_map, List.length_take] at h2
  have key : ∀ (ds : List ByteArray) (rl : List (List Ct)), rl.length = ds.length → (∀ rs ∈ rl, rs ≠ []) → ds.length ≤ ((ds.zip rl).flatMap fun p => p.2.map (jnC p.1)).length := by
    intro ds
    induction ds with
    | nil => intro rl _ _; exact Nat.zero_le _
    | cons d ds ih =>
      intro rl hl hn
      cases rl with
      | nil => cases hl
      | cons r rl =>
        have h1 := ih rl (by simpa using hl) (fun rs hr => hn rs (by simp [hr]))
        have h3 := List.length_pos_iff.2 (hn r (by simp))
        rw [List.zip_cons_cons, List.flatMap_cons, List.length_append, List.length_map, List.length_cons]
        simp only
        omega
  have h1 := key dirs rules h.len hne
  unfold gath at h2
  omega
structure BldU (ds : List ByteArray) (rss : List (List Tg)) (bs : List Fl) (k : Nat) : Prop where
  len : bs.length = k
  all : ∀ (j : Nat) (d : ByteArray) (rs : List Tg) (b : Fl), ds[j]? = some d → rss[j]? = some rs → bs[j]? = some b → b.1 = bldS d ∧ bl b.2 = txtW ((rs.map ct).flatMap sepsW) ∧ checkE rs = 0
  sz : ∀ b ∈ bs, b.1.size ≤ 500 ∧ b.2.size ≤ 60000
theorem BldU.start (ds : List ByteArray) (rss : List (List Tg)) : BldU ds rss [] 0 := ⟨rfl, (fun j d rs b _ _ h => by simp at h), fun b h => by cases h⟩
theorem bldS_size {d : ByteArray} (h : d.size ≤ 90) : (bldS d).size ≤ 500 := by
  unfold bldS
  split
  · decide
  · rw [ByteArray.size_append]
    have : slBuildW.size ≤ 100 := by decide
    omega
theorem BldU.step {ds : List ByteArray} {rss : List (List Tg)} {bs : List Fl} {k : Nat} {d s : ByteArray} {rs : List Tg} (h : BldU ds rss bs k) (hd : ds[k]? = some d) (hr : rss[k]? = some rs) (hsd : d.size ≤ 90) (hl : rs.length ≤ 12)
    (hc : checkE rs = 0) (hs : bl s = txtW ((rs.map ct).flatMap sepsW)) : BldU ds rss (bs ++ [(bldS d, s)]) (k + 1) := by
  have hsz : s.size ≤ 60000 := by
    have h1 := rules_len (cs := rs.map ct) (fun c hcm => by
      obtain ⟨x, hx, rfl⟩ := List.mem_map.1 hcm
      exact (checkE_ok hc).2 x hx)
    rw [← hs, bl_len, List.length_map] at h1
    have := Nat.mul_le_mul_right 4140 hl
    omega
  refine ⟨by rw [List.length_append, h.len]; rfl, fun j e qs b h1 h2 h3 => ?_, fun b hb => ?_⟩
  · by_cases hj : j < k
    · rw [List.getElem?_append_left (by rw [h.len]; exact hj)] at h3
      exact h.all j e qs b h1 h2 h3
    · obtain rfl : j = k := by
        have := (List.getElem?_eq_some_iff.1 h3).1
        rw [List.length_append, h.len, List.length_singleton] at this
        omega
      rw [List.getElem?_append_right (by rw [h.len]; exact Nat.le_refl _), h.len, Nat.sub_self] at h3
      simp at h3
      rw [hd] at h1; rw [hr] at h2
      cases h1; cases h2; subst h3
      exact ⟨rfl, hs, hc⟩
  · rcases List.mem_append.1 hb with hb | hb
    · exact h.sz b hb
    · rw [List.mem_singleton.1 hb]; exact ⟨bldS_size hsd, hsz⟩
theorem BldU.build {ds : List ByteArray} {rss : List (List Tg)} {bs : List Fl} (h : BldU ds rss bs ds.length) : BuildF ds (rss.map (List.map ct)) bs := by
  refine ⟨h.len, fun j d rs b h1 h2 h3 => ?_⟩
  rw [List.getElem?_map, Option.map_eq_some_iff] at h2
  obtain ⟨qs, h2, rfl⟩ := h2
  obtain ⟨e1, e2, e3⟩ := h.all j d qs b h1 h2 h3
  exact ⟨e1, by have := (h.sz b (List.mem_of_getElem? h3)).2; omega, e2, by rw [checkC_ct]; exact e3⟩
theorem modF_sz {ts : List Tg} (h : ∀ t ∈ ts, t.lab.size ≤ 100) : ∀ f ∈ modF ts, f.1.size ≤ 500 ∧ f.2.size ≤ 60000 := fun f hf => by
  obtain ⟨t, ht, rfl⟩ := List.mem_map.1 hf
  refine ⟨?_, Nat.zero_le _⟩
  have h1 := h t ht
  have : pkW.size ≤ 100 := by decide
  simp only [ByteArray.size_append]
  omega
def VisU (ts : List Tg) (k : Nat) : Prop := ∀ t ∈ ts.take k, ∀ d ∈ t.deps, ∀ o, findT ts d = some o → visT o.lab o.vis t.lab = true
theorem VisU.start (ts : List Tg) : VisU ts 0 := fun t h => by simp at h
theorem VisU.step {ts : List Tg} {k : Nat} {t : Tg} (h : VisU ts k) (ht : ts[k]? = some t) (hv : ∀ d ∈ t.deps, ∀ o, findT ts d = some o → visT o.lab o.vis t.lab = true) : VisU ts (k + 1) := fun x hx => by
  rw [take_snoc ht] at hx
  rcases List.mem_append.1 hx with hx | hx
  · exact h x hx
  · rw [List.mem_singleton.1 hx]; exact hv
theorem modF_snoc {ts : List Tg} {k : Nat} {t : Tg} (ht : ts[k]? = some t) : modF (ts.take (k + 1)) = modF (ts.take k) ++ [(t.lab ++ pkW, ⟨#[]⟩)] := by
  rw [take_snoc ht]; simp [modF]
end Go.Proofs.YtddlohbhchjjhaaGreatDoor

namespace Go.Proofs.YtddlohbhchjjhaaGreatDoor
open Go.RowKit
variable {P : Program} {Q : Exit → Act → World → Prop}

set_option maxHeartbeats 400000 in
theorem wp_region_turnG {id : Nat} {l : List Oper} {a0 : Act} {w0 : World} (n m : Nat) (hm : P.follows .mixedOrders = true) (hB : stableGB l n = true)
    (R : Bool → World → Prop) (E : Bool → World → World → Prop) (Φ : Nat → Value → World → Prop) (hR : ∀ b w w', R b w → E b w w' → R b w') (hΦ : ∀ b i v w w', (i = m → b = true) → Φ i v w → E b w w' → Φ i v w')
    (h0 : R false { w0 with drawn := w0.drawn + 1 })
    (hstep : ∀ (b : Bool) (i : Nat) (o : Oper) (vs : List Value) (w : World), i < n → i ≠ m → (∀ om, l[m]? = some om → (∃ e ∈ om.after, Region.binds .any e = true ∧ e.on = i) → b = false) → l[i]? = some o → vs.length = n → R b w → (∀ e ∈ o.after, Region.binds .any e = true → ∀ v, vs[e.on]? = some v → Φ e.on v w) →
      GivesG P l.toArray o (putAll a0 ((dstsOf l n).zip vs)) w fun v w' => E b w w' ∧ Φ i v w')
    (hturn : ∀ (o : Oper) (vs : List Value) (w : World), l[m]? = some o → vs.length = n → R false w → (∀ e ∈ o.after, Region.binds .any e = true → ∀ v, vs[e.on]? = some v → Φ e.on v w) →
      GivesG P l.toArray o (putAll a0 ((dstsOf l n).zip vs)) w fun v w' => R true w' ∧ Φ m v w' ∧ ∀ i u, i ≠ m → Φ i u w → Φ i u w')
    (hmn : m < n)
    (htail : ∀ (vs : List Value) (w : World), vs.length = n → R true w → (∀ i v, vs[i]? = some v → Φ i v w) → wpList P l.toArray Q (l.drop n) (putAll a0 ((dstsOf l n).zip vs)) w) :
    (Code.region id l.toArray true).wp P Q a0 w0 := by
  simp only [stableGB, Bool.and_eq_true, decide_eq_true_eq, List.all_eq_true] at hB
  obtain ⟨⟨⟨⟨⟨⟨hn, hs⟩, hc⟩, hseq⟩, hdst⟩, hnd⟩, hback⟩ := hB
  have hdl : (dstsOf l n).length = n := by simp [dstsOf]; omega
  refine wp_region_any hm ?_
  -- the state: which operations have been carried out, what the temporaries hold
  have main : ∀ (f : Nat) (listed : Array Bool) (vs : List Value) (w : World), HeadInv .any l.toArray n listed → vs.length = n → R (listed.getD m false) w →
      (∀ i v, i < n → listed.getD i false = true → vs[i]? = some v → Φ i v w) → (listed.toList.take n).count false = f →
      wpAny P .any l.toArray Q (f + (l.length - n)) listed (putAll a0 ((dstsOf l n).zip vs)) w := by
    intro f
    induction f with
    | zero =>
      intro listed vs w inv hv hw hphi hcnt
      have hall : ∀ i, i < n → listed.getD i false = true := by
        intro i hi
        have hsz : i < listed.size := by rw [inv.size]; simp; omega
        have hmem : listed.toList[i]? = some listed[i] := by simp [hsz]
        have hne : listed[i] ≠ false := by
          intro e
          have hm2 : false ∈ listed.toList.take n := by
            rw [List.mem_take_iff_getElem]
            exact ⟨i, by simp; omega, by simpa using e⟩
          have := List.count_pos_iff.2 hm2
          omega
        simp [hsz]; simpa using hne
      have hfull : listed = fullL l n := by
        apply Array.ext
        · rw [inv.size]; simp [fullL]
        · intro i h1 h2
          have hil : i < l.length := by rw [inv.size] at h1; simpa using h1
          simp only [fullL, List.getElem_toArray, List.getElem_map, List.getElem_range]
          by_cases hi : i < n
          · have := hall i hi; simp [h1] at this; simp [this, hi]
          · have := inv.tail i (by omega) (by simpa using hil); simp [h1] at this; simp [this, hi]
      subst hfull
      have hmt : (fullL l n).getD m false = true := hall m hmn
      rw [hmt] at hw
      have hw' := htail vs w hv hw (fun i v hi => hphi i v (by have := (List.getElem?_eq_some_iff.1 hi).1; omega) (hall i (by have := (List.getElem?_eq_some_iff.1 hi).1; omega)) hi)
      have := wpAny_of_seq (md := .any) (Q' := Q) (l.drop n) n (fullL l n) _ w (fun j => by simp [List.getElem?_drop]) (by rw [List.length_drop]; exact hseq) hw'
      rw [List.length_drop] at this
      simpa using this
    | succ f ih =>
      intro listed vs w inv hv hw hphi hcnt
      have hun : ∃ i, i < n ∧ listed.getD i true = false := by
        have : 0 < (listed.toList.take n).count false := by omega
        have hm2 := List.count_pos_iff.1 this
        rw [List.mem_take_iff_getElem] at hm2
        obtain ⟨i, hi, hv2⟩ := hm2
        refine ⟨i, by simp at hi; omega, ?_⟩
        have hsz : i < listed.size := by simp at hi; omega
        rw [Array.getD_eq_getD_getElem?, Array.getElem?_eq_getElem hsz]; simpa using hv2
      rw [show f + 1 + (l.length - n) = (f + (l.length - n)) + 1 by omega]
      obtain ⟨i0, hi0, hu0⟩ := hun
      have hready_lt : ∀ i ∈ Region.ready .any l.toArray listed, i < n := by
        intro i hi
        rcases Nat.lt_or_ge i n with h | h
        · exact h
        · exact absurd hi (tail_waits hs hc (by simpa using hn) inv _ i0 rfl hi0 hu0 i h)
      have hne : Region.ready .any l.toArray listed ≠ [] := by
        -- the first operation that is not yet carried out and whose own conditions are all met: by the least such index
        intro hnil
        obtain ⟨m, hm1, hm2⟩ : ∃ m, (m < n ∧ listed.getD m true = false) ∧ ∀ k, k < m → ¬ (k < n ∧ listed.getD k true = false) := by
          have : ∀ m, (m < n ∧ listed.getD m true = false) → ∃ m, (m < n ∧ listed.getD m true = false) ∧ ∀ k, k < m → ¬ (k < n ∧ listed.getD k true = false) := by
            intro m
            induction m using Nat.strongRecOn with
            | _ m ihm =>
              intro h
              by_cases hex : ∃ k, k < m ∧ (k < n ∧ listed.getD k true = false)
              · obtain ⟨k, hk, hk2⟩ := hex; exact ihm k hk hk2
              · exact ⟨m, h, fun k hk hk2 => hex ⟨k, hk, hk2⟩⟩
          exact this i0 ⟨hi0, hu0⟩
        have hml : m < l.length := by omega
        have hmo : l[m]? = some l[m] := List.getElem?_eq_getElem hml
        have hb1 := hback m (List.mem_range.2 hm1.1)
        rw [hmo] at hb1
        simp only at hb1
        have hmr : m ∈ Region.ready .any l.toArray listed := by
          refine mem_ready.2 ⟨hm1.2, l[m], by simp, fun e he _ => ?_⟩
          have hlt : e.on < m := by
            have := (Array.all_eq_true_iff_forall_mem.1 hb1) e he
            simpa using this
          have hnot := hm2 e.on hlt
          cases hx : listed.getD e.on true with
          | true =>
            have hsz : e.on < listed.size := by rw [inv.size]; simp; omega
            simp [hsz] at hx ⊢; exact hx
          | false => exact absurd ⟨by omega, hx⟩ hnot
        rw [hnil] at hmr; cases hmr
      refine ⟨fun h => absurd h hne, fun i hi => ?_⟩
      have hin := hready_lt i hi
      obtain ⟨hlf, o, ho, hdeps⟩ := mem_ready.1 hi
      have ho' : l[i]? = some o := by simpa using ho
      have hmem : o ∈ l.take n := List.mem_take_iff_getElem.2 ⟨i, (by have := (List.getElem?_eq_some_iff.1 ho').1; omega), (List.getElem?_eq_some_iff.1 ho').2⟩
      have hdo := hdst o hmem
      obtain ⟨d, hd⟩ := Option.isSome_iff_exists.1 hdo
      have hdi : (dstsOf l n)[i]? = some d := by
        simp [dstsOf, hin, ho', hd]
      have hdep : ∀ e ∈ o.after, Region.binds .any e = true → ∀ v, vs[e.on]? = some v → Φ e.on v w := fun e he hb v hve => by
        have hle := hdeps e he hb
        have hen : e.on < n := by have := (List.getElem?_eq_some_iff.1 hve).1; omega
        exact hphi e.on v hen hle hve
      have hsz : i < listed.size := by rw [inv.size]; simp; omega
      have hli : listed.toList[i]? = some false := by
        simp [hsz] at hlf ⊢; exact hlf
      have hgo : ∀ v w', R ((listed.setIfInBounds i true).getD m false) w' → Φ i v w' → (∀ j u, j ≠ i → j < n → listed.getD j false = true → Φ j u w → Φ j u w') → wpAny P .any l.toArray Q (f + (l.length - n)) (listed.setIfInBounds i true) ((putAll a0 ((dstsOf l n).zip vs)).put o.dst v) w' := ?hgo
      case hgo =>
        intro v w' hv1 hv2 hv3
        rw [hd, ← putAll_set a0 (dstsOf l n) vs i d v hnd (by rw [hdl, hv]) hdi]
        refine ih (listed.setIfInBounds i true) (vs.set i v) w' (inv.set hi hin) (by simpa using hv) hv1 ?_ ?_
        · intro j u hj hlj huj
          by_cases e : j = i
          · subst e
            have hjl : j < vs.length := by omega
            rw [List.getElem?_set_self hjl] at huj
            cases huj; exact hv2
          · rw [List.getElem?_set_ne (fun h => e h.symm)] at huj
            rw [getD_set_ne false (fun h => e h.symm)] at hlj
            exact hv3 j u e hj hlj (hphi j u hj hlj huj)
        · have : (listed.setIfInBounds i true).toList.take n = (listed.toList.take n).set i true := by
            rw [Array.toList_setIfInBounds, List.take_set]
          rw [this]
          have h2 := count_set_lt (l := listed.toList.take n) (i := i) (by rw [List.getElem?_take, if_pos hin]; exact hli)
          omega
      have hlf' : listed.getD i false = false := getD_both hlf
      by_cases him : i = m
      · subst him
        have hgive := hturn o vs w ho' hv (by rw [hlf'] at hw; exact hw) hdep
        have hset : (listed.setIfInBounds i true).getD i false = true := by simp [hsz]
        have hgo' : ∀ v w', (R true w' ∧ Φ i v w' ∧ ∀ j u, j ≠ i → Φ j u w → Φ j u w') → wpAny P .any l.toArray Q (f + (l.length - n)) (listed.setIfInBounds i true) ((putAll a0 ((dstsOf l n).zip vs)).put o.dst v) w' := fun v w' h => hgo v w' (by rw [hset]; exact h.1) h.2.1 (fun j u hj _ _ hp => h.2.2 j u hj hp)
        unfold wpOp
        simp only [ho]
        rcases hgive with ⟨hw1, hw2⟩ | ⟨hw1, hw2⟩
        · rw [if_pos hw1]
          exact .inl (hw2 _ _ hgo')
        · rw [if_neg (by rw [hw1]; simp)]
          exact hgo' undef w hw2
      · have hset : (listed.setIfInBounds i true).getD m false = listed.getD m false := getD_set_ne false him
        have hgive := hstep (listed.getD m false) i o vs w hin him (fun om hom ⟨e, he, hb, heo⟩ => by
          cases hx : listed.getD m false with
          | false => rfl
          | true =>
            have := inv.closed m om (by simpa using hom) hx e he hb
            rw [heo, hlf'] at this; cases this) ho' hv hw hdep
        have hgo' : ∀ v w', (E (listed.getD m false) w w' ∧ Φ i v w') → wpAny P .any l.toArray Q (f + (l.length - n)) (listed.setIfInBounds i true) ((putAll a0 ((dstsOf l n).zip vs)).put o.dst v) w' := fun v w' h => hgo v w' (by rw [hset]; exact hR _ w w' hw h.1) h.2 (fun j u _ _ hlj hp => hΦ _ j u w w' (fun e => by subst e; exact hlj) hp h.1)
        unfold wpOp
        simp only [ho]
        rcases hgive with ⟨hw1, hw2⟩ | ⟨hw1, hw2⟩
        · rw [if_pos hw1]
          exact .inl (hw2 _ _ hgo')
        · rw [if_neg (by rw [hw1]; simp)]
          exact hgo' undef w hw2
  have inv0 : HeadInv .any l.toArray n (Array.replicate l.toArray.size false) :=
    ⟨by simp, fun j oj _ hl => (by rw [getD_replicate_false] at hl; cases hl), fun t _ ht => getD_in (by simpa using ht) (getD_replicate_false _ _)⟩
  have := main n (Array.replicate l.toArray.size false) ((dstsOf l n).map fun d => a0.tmps.getD d undef) _ inv0 (by simpa using hdl) (by rw [getD_replicate_false]; exact h0)
    (fun i v _ hl _ => by rw [getD_replicate_false] at hl; cases hl) (by simp; omega)
  rw [putAll_same, show n + (l.length - n) = l.toArray.size by simp; omega] at this
  exact this
theorem wp_region_turnGD {id : Nat} {l : List Oper} {a0 : Act} {w0 : World} (n m : Nat) (ds : List Tmp) (hm : P.follows .mixedOrders = true) (hB : stableGB l n = true) (hds : dstsOf l n = ds)
    (R : Bool → World → Prop) (E : Bool → World → World → Prop) (Φ : Nat → Value → World → Prop) (hR : ∀ b w w', R b w → E b w w' → R b w') (hΦ : ∀ b i v w w', (i = m → b = true) → Φ i v w → E b w w' → Φ i v w')
    (h0 : R false w0.drew)
    (hstep : ∀ (b : Bool) (i : Nat) (o : Oper) (vs : List Value) (w : World), i < n → i ≠ m → (∀ om, l[m]? = some om → (∃ e ∈ om.after, Region.binds .any e = true ∧ e.on = i) → b = false) → l[i]? = some o → vs.length = n → R b w → (∀ e ∈ o.after, Region.binds .any e = true → ∀ v, vs[e.on]? = some v → Φ e.on v w) →
      GivesG P l.toArray o (putAll a0 (ds.zip vs)) w fun v w' => E b w w' ∧ Φ i v w')
    (hturn : ∀ (o : Oper) (vs : List Value) (w : World), l[m]? = some o → vs.length = n → R false w → (∀ e ∈ o.after, Region.binds .any e = true → ∀ v, vs[e.on]? = some v → Φ e.on v w) →
      GivesG P l.toArray o (putAll a0 (ds.zip vs)) w fun v w' => R true w' ∧ Φ m v w' ∧ ∀ i u, i ≠ m → Φ i u w → Φ i u w')
    (hmn : m < n)
    (htail : ∀ (vs : List Value) (w : World), vs.length = n → R true w → (∀ i v, vs[i]? = some v → Φ i v w) → wpList P l.toArray Q (l.drop n) (putAll a0 (ds.zip vs)) w) :
    (Code.region id l.toArray true).wp P Q a0 w0 := by
  subst hds
  exact wp_region_turnG n m hm hB R E Φ hR hΦ h0 hstep hturn hmn htail
end Go.Proofs.YtddlohbhchjjhaaGreatDoor

namespace Go.Proofs.YtddlohbhchjjhaaGreatDoor
open Go.RowKit

def asPhi (k : Nat) (vals : List Value) (base : Nat) (t : TypeId) (cs : Array Value) (i : Nat) (v : Value) (W : World) : Prop :=
  if i = k then ∃ b0, v = .slice (some ⟨b0, 0, none⟩) 1 1 ∧ base ≤ b0 ∧ Bk W b0 t cs else vPhi vals i v W
theorem asPhi_keep {k : Nat} {vals : List Value} {base : Nat} {t : TypeId} {cs : Array Value} (i : Nat) (v : Value) (W W' : World) (h : asPhi k vals base t cs i v W) (hb : Below W.heap.size W W') : asPhi k vals base t cs i v W' := by
  unfold asPhi at h ⊢
  by_cases e : i = k
  · rw [if_pos e] at h ⊢
    obtain ⟨b0, h1, h2, h3⟩ := h
    exact ⟨b0, h1, h2, h3.below hb h3.lt⟩
  · rw [if_neg e] at h ⊢; exact h
end Go.Proofs.YtddlohbhchjjhaaGreatDoor
