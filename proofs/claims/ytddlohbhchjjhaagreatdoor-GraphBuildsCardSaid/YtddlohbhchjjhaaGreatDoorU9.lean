/-
  Lemmas: The reference's least. The reference's Cycle: it is empty exactly where no label reaches itself. The program's cycle is the reference's cycle, in plain Lean. What Load answers, in plain Lean.
-/
import Derived.IntWalk
import Derived.Test.YtddlohbhchjjhaaGreatDoorU8

namespace Go.Proofs.YtddlohbhchjjhaaGreatDoor
open Go.RowKit Go.Maps

theorem list36 {vs : List Value} (h : vs.length = 36) : ∃ v0 v1 v2 v3 v4 v5 v6 v7 v8 v9 v10 v11 v12 v13 v14 v15 v16 v17 v18 v19 v20 v21 v22 v23 v24 v25 v26 v27 v28 v29 v30 v31 v32 v33 v34 v35, vs = v0 :: v1 :: v2 :: v3 :: v4 :: v5 :: v6 :: v7 :: v8 :: v9 :: v10 :: v11 :: v12 :: v13 :: v14 :: v15 :: v16 :: v17 :: v18 :: v19 :: v20 :: v21 :: v22 :: v23 :: v24 :: v25 :: v26 :: v27 :: v28 :: v29 :: v30 :: v31 :: v32 :: v33 :: v34 :: v35 :: [] := by
  match vs, h with
  | v0 :: v1 :: v2 :: v3 :: v4 :: v5 :: v6 :: v7 :: v8 :: v9 :: v10 :: v11 :: v12 :: v13 :: v14 :: v15 :: v16 :: v17 :: v18 :: v19 :: v20 :: v21 :: v22 :: v23 :: v24 :: v25 :: v26 :: v27 :: v28 :: v29 :: v30 :: v31 :: v32 :: v33 :: v34 :: v35 :: [], _ => exact ⟨_, _, _, _, _, _, _, _, _, _, _, _, _, _, _, _, _, _, _, _, _, _, _, _, _, _, _, _, _, _, _, _, _, _, _, _, rfl⟩
def lstPhi (wanted : Bool) (vals : List Value) (ts : List Tg) (lab : ByteArray) (i : Nat) (v : Value) (W : World) : Prop :=
  if i = 29 then (if wanted then ∃ A' c' l, v = .slice A' l.length c' ∧ Sl W W.heap.size 1 A' l.length (strs l) ∧ l.length ≤ ts.length ∧ ∀ x, x ∈ l ↔ Rch (nxT ts) lab x else vPhi vals i v W) else vPhi vals i v W
theorem lstPhi_keep {wanted : Bool} {vals : List Value} {ts : List Tg} {lab : ByteArray} (i : Nat) (v : Value) (W W' : World) (h : lstPhi wanted vals ts lab i v W) (hb : Below W.heap.size W W') : lstPhi wanted vals ts lab i v W' := by
  unfold lstPhi at h ⊢
  by_cases e : i = 29
  · rw [if_pos e] at h ⊢
    cases wanted with
    | false => exact h
    | true =>
      rw [if_pos rfl] at h ⊢
      obtain ⟨A', c', l, h1, h2, h3⟩ := h
      exact ⟨A', c', l, h1, (h2.below hb (Nat.le_refl _)).more hb.size, h3⟩
  · rw [if_neg e] at h ⊢; exact h
def LstK (ts : List Tg) (k : Nat) (is : Bool) (out : ByteArray) : Prop :=
  (is = true → Rch (nxT ts) out out) ∧ ∀ j t, j < k → ts[j]? = some t → Rch (nxT ts) t.lab t.lab → is = true ∧ less t.lab out = false
def LeastR (ts : List Tg) (out : ByteArray) (is : Bool) : Prop := (is = true → Rch (nxT ts) out out) ∧ ∀ s, Rch (nxT ts) s s → is = true ∧ less s out = false
theorem LstK.end_ {ts : List Tg} {is : Bool} {out : ByteArray} {k : Nat} (h : LstK ts k is out) (hk : ts.length ≤ k) : LeastR ts out is := by
  refine ⟨h.1, fun s hs => ?_⟩
  obtain ⟨t, ht, rfl⟩ := List.mem_map.1 ((isT_iff ts s).1 (rch_isT hs))
  obtain ⟨j, hj, e⟩ := List.getElem_of_mem ht
  exact h.2 j t (by omega) (by rw [← e]; exact List.getElem?_eq_getElem _) hs
theorem LstK.start (ts : List Tg) : LstK ts 0 false ⟨#[]⟩ := ⟨(fun h => by cases h), fun j t h => absurd h (by omega)⟩
theorem LstK.pass {ts : List Tg} {is : Bool} {out : ByteArray} {k : Nat} {t : Tg} (h : LstK ts k is out) (ht : ts[k]? = some t) (hn : Rch (nxT ts) t.lab t.lab → is = true ∧ less t.lab out = false) : LstK ts (k + 1) is out := by
  refine ⟨h.1, fun j x hj hx hr => ?_⟩
  by_cases e : j = k
  · subst e; rw [ht] at hx; cases hx; exact hn hr
  · exact h.2 j x (by omega) hx hr
theorem LstK.got {ts : List Tg} {is : Bool} {out : ByteArray} {k : Nat} {t : Tg} (h : LstK ts k is out) (ht : ts[k]? = some t) (hr : Rch (nxT ts) t.lab t.lab) (hl : is = true → less t.lab out = true) : LstK ts (k + 1) true t.lab := by
  refine ⟨fun _ => hr, fun j x hj hx hrx => ⟨rfl, ?_⟩⟩
  by_cases e : j = k
  · subst e; rw [ht] at hx; cases hx; exact lessB_irrefl _
  · obtain ⟨h1, h2⟩ := h.2 j x (by omega) hx hrx
    cases h3 : less x.lab t.lab with
    | false => rfl
    | true => rw [lessB_trans h3 (hl h1)] at h2; cases h2
theorem posI_le : ∀ {ts : List Tg} {k : Nat} {t : Tg}, ts[k]? = some t → ∃ j : Nat, posI ts t.lab = j ∧ j ≤ k ∧ ∃ x, ts[j]? = some x ∧ x.lab = t.lab
  | [], _, _, h => by simp at h
  | r :: ts, 0, t, h => by simp at h; subst h; exact ⟨0, by simp [posI], Nat.le_refl _, r, rfl, rfl⟩
  | r :: ts, k + 1, t, h => by
    obtain ⟨j, h1, h2, x, h3, h4⟩ := posI_le (ts := ts) (k := k) (by simpa using h)
    by_cases e : r.lab = t.lab
    · exact ⟨0, by simp [posI, e], by omega, r, rfl, e⟩
    · exact ⟨j + 1, by simp only [posI, if_neg e, h1]; rw [if_neg (by omega)]; omega, by omega, x, by simpa using h3, h4⟩

def LeastEnd (ts : List Tg) (w : World) (e : Ending) (w' : World) : Prop := ∃ s is, e = .returned (.tuple #[.string s, .bool is]) ∧ LeastR ts s is ∧ Below w.heap.size w w'
set_option maxRecDepth 100000 in
set_option maxHeartbeats 8000000 in
theorem rleast_any (A : Option Addr) (n c B : Nat) (ts : List Tg) (w : World) (h0 : Sl w B 4 A n (flat tgC ts)) (hok : ∀ t ∈ ts, TgOk w B t) (hB : B ≤ w.heap.size) (hn : n ≤ 1000) :
    Calls Tryz.prog 66 #[.slice A n c] w (LeastEnd ts w) := by
  have HL := Lib.hid (h0.len tgC_len (by omega))
  have H0 := Lib.hid h0; have HOK := Lib.hid hok
  clear h0 hok
  go_enter Tryz.func66, Tryz.ntmps66
  go_wp2
  go_loopw [4, 5, 6] (fun q4 q5 q6 wr => ∃ (k : Nat) (out : ByteArray) (is : Bool), k ≤ n ∧ q6 = .int .i64 k ∧ q4 = .string out ∧ q5 = .bool is ∧ Hid (LstK ts k is out) ∧ Hid (Below w.heap.size w wr)) (fun _ _ q6 _ => n - (intOf q6).toNat)
  case atStart => exact ⟨0, ⟨#[]⟩, false, Nat.zero_le _, rfl, rfl, rfl, LstK.start ts, Below.refl _ _⟩
  case round =>
    obtain ⟨k, out, is, hk, rfl, rfl, rfl, hK, hBel⟩ := hrel
    have hwr := hBel.out.size
    by_cases hlt : k < n
    · obtain ⟨b, off, t, rfl, hbB, ht, y0, y1, y2, y3⟩ := (H0.out.below hBel.out hB).tg hlt
      have hlz : (k : Int) < (n : Int) := by omega
      obtain ⟨lab, hlab⟩ : ∃ lab, t.lab = lab := ⟨_, rfl⟩
      rw [hlab] at y0
      have HY0 := Lib.hid y0
      obtain ⟨j, hpj, hjk, x, hx, hxl⟩ := posI_le ht
      rw [hlab] at hpj
      have HT := Lib.hid ht; have HLB := Lib.hid hlab
      have HPX : Hid (ts[j]? = some x ∧ x.lab = t.lab) := ⟨hx, hxl⟩
      clear y0 y1 y2 y3 ht hlab hx hxl
      by_cases hjk2 : j = k
      · have hjk3 : k = j := hjk2.symm
        clear hjk2
        subst hjk3
        have HPO := Lib.hid hpj
        obtain ⟨rb, hrb⟩ : ∃ rb : Bool, (rb = true ↔ Rch (nxT ts) lab lab) := by
          by_cases h : Rch (nxT ts) lab lab
          · exact ⟨true, by simp [h]⟩
          · exact ⟨false, by simp [h]⟩
        have HRB := Lib.hid hrb
        clear hpj hrb
        cases is with
        | false =>
          go_wp2_with fail
          refine wp_region_stableGD 36 (13 :: 14 :: 15 :: 16 :: 17 :: 18 :: 19 :: 20 :: 21 :: 22 :: 23 :: 24 :: 25 :: 26 :: 27 :: 28 :: 29 :: 30 :: 31 :: 32 :: 33 :: 34 :: 35 :: 36 :: 37 :: 38 :: 39 :: 40 :: 41 :: 42 :: 43 :: 44 :: 45 :: 46 :: 47 :: 48 :: []) (by kernel_rfl) (by kernel_rfl) (by kernel_rfl) (fun W => Below wr.heap.size wr W) (fun W W' => Below W.heap.size W W')
            (lstPhi true ((.slice (some ⟨b, off, none⟩) n c) :: (.slice (some ⟨b, off, none⟩) n c) :: (.int .i64 (k : Int)) :: (.pointer (some ⟨b, off + k * 4, none⟩)) :: (.pointer (some ⟨b, off + k * 4, none⟩)) :: (.string lab) :: (.int .i64 (k : Int)) :: (.int .i64 (k : Int)) :: (.bool true) :: (.bool true) :: (.bool false) :: (.bool true) :: (.bool true) :: (undef) :: (undef) :: (undef) :: (undef) :: (undef) :: (undef) :: (undef) :: (.bool true) :: (.bool true) :: (.bool true) :: (.slice (some ⟨b, off, none⟩) n c) :: (.slice (some ⟨b, off, none⟩) n c) :: (.int .i64 (k : Int)) :: (.pointer (some ⟨b, off + k * 4, none⟩)) :: (.pointer (some ⟨b, off + k * 4, none⟩)) :: (.string lab) :: undef :: (.slice (some ⟨b, off, none⟩) n c) :: (.int .i64 (k : Int)) :: (.pointer (some ⟨b, off + k * 4, none⟩)) :: (.pointer (some ⟨b, off + k * 4, none⟩)) :: (.string lab) :: (.bool rb) :: []) ts lab) (fun W W' h1 h2 => h1.trans (h2.mono h1.size)) (fun i v W W' h hb => lstPhi_keep i v W W' h hb) (Below.refl _ _).drew ?stepFIRST ?tailFIRST
          case stepFIRST =>
            intro i o vs W hi ho hv hR hphi
            obtain ⟨v0, v1, v2, v3, v4, v5, v6, v7, v8, v9, v10, v11, v12, v13, v14, v15, v16, v17, v18, v19, v20, v21, v22, v23, v24, v25, v26, v27, v28, v29, v30, v31, v32, v33, v34, v35, rfl⟩ := list36 hv
            simp only [List.zip, List.zipWith, putAll, Act.put, List.setIfInBounds_toArray, List.set]
            have l0 := (hR.cell (p := ⟨b, off + k * 4, none⟩) (by show b < _; omega)).trans HY0.out
            have hWz := hR.size
            match i, hi, ho with
            | 0, _, rfl =>
              exact .inl ⟨rfl, gives_value (v := .slice (some ⟨b, off, none⟩) n c) (w' := W) (by go_simp) ⟨Below.refl _ _, fun u hu => by cases hu; rfl⟩⟩
            | 1, _, rfl =>
              exact .inl ⟨rfl, gives_value (v := .slice (some ⟨b, off, none⟩) n c) (w' := W) (by go_simp) ⟨Below.refl _ _, fun u hu => by cases hu; rfl⟩⟩
            | 2, _, rfl =>
              exact .inl ⟨rfl, gives_value (v := .int .i64 (k : Int)) (w' := W) (by go_simp) ⟨Below.refl _ _, fun u hu => by cases hu; rfl⟩⟩
            | 3, _, rfl =>
              have e1 : v1 = _ := hphi ⟨1, .data⟩ (by simp) rfl v1 rfl _ rfl
              have e2 : v2 = _ := hphi ⟨2, .data⟩ (by simp) rfl v2 rfl _ rfl
              subst e1 e2
              exact .inl ⟨rfl, gives_value (v := .pointer (some ⟨b, off + k * 4, none⟩)) (w' := W) (by go_simp) ⟨Below.refl _ _, fun u hu => by cases hu; rfl⟩⟩
            | 4, _, rfl =>
              have e3 : v3 = _ := hphi ⟨3, .data⟩ (by simp) rfl v3 rfl _ rfl
              subst e3
              exact .inl ⟨rfl, gives_value (v := .pointer (some ⟨b, off + k * 4, none⟩)) (w' := W) (by go_simp) ⟨Below.refl _ _, fun u hu => by cases hu; rfl⟩⟩
            | 5, _, rfl =>
              have e4 : v4 = _ := hphi ⟨4, .data⟩ (by simp) rfl v4 rfl _ rfl
              subst e4
              exact .inl ⟨rfl, gives_value (v := .string lab) (w' := W) (by go_simp) ⟨Below.refl _ _, fun u hu => by cases hu; rfl⟩⟩
            | 6, _, rfl =>
              have e0 : v0 = _ := hphi ⟨0, .data⟩ (by simp) rfl v0 rfl _ rfl
              have e5 : v5 = _ := hphi ⟨5, .data⟩ (by simp) rfl v5 rfl _ rfl
              subst e0 e5
              refine .inl ⟨rfl, gives_call (f := 68) (args := #[.slice (some ⟨b, off, none⟩) n c, .string lab]) (by go_simp) ((rfind_any (some ⟨b, off, none⟩) n c B ts lab W ((H0.out.below hBel.out hB).below hR (by omega)) (by omega)).mono ?_)⟩
              rintro e W' ⟨rfl, rfl⟩
              exact ⟨_, rfl, Below.refl _ _, fun u hu => by cases hu; rw [HPO.out]⟩
            | 7, _, rfl =>
              exact .inl ⟨rfl, gives_value (v := .int .i64 (k : Int)) (w' := W) (by go_simp) ⟨Below.refl _ _, fun u hu => by cases hu; rfl⟩⟩
            | 8, _, rfl =>
              have e6 : v6 = _ := hphi ⟨6, .data⟩ (by simp) rfl v6 rfl _ rfl
              have e7 : v7 = _ := hphi ⟨7, .data⟩ (by simp) rfl v7 rfl _ rfl
              subst e6 e7
              exact .inl ⟨rfl, gives_value (v := .bool true) (w' := W) (by go_simp) ⟨Below.refl _ _, fun u hu => by cases hu; rfl⟩⟩
            | 9, _, rfl =>
              have e8 : v8 = _ := hphi ⟨8, .data⟩ (by simp) rfl v8 rfl _ rfl
              subst e8
              exact .inl ⟨rfl, gives_value (v := .bool true) (w' := W) (by go_simp) ⟨Below.refl _ _, fun u hu => by cases hu; rfl⟩⟩
            | 10, _, rfl =>
              have e9 : v9 = _ := hphi ⟨9, .guard⟩ (by simp) rfl v9 rfl _ rfl
              subst e9
              exact .inl ⟨rfl, gives_value (v := .bool false) (w' := W) (by go_simp) ⟨Below.refl _ _, fun u hu => by cases hu; rfl⟩⟩
            | 11, _, rfl =>
              have e10 : v10 = _ := hphi ⟨10, .data⟩ (by simp) rfl v10 rfl _ rfl
              have e9 : v9 = _ := hphi ⟨9, .guard⟩ (by simp) rfl v9 rfl _ rfl
              subst e9 e10
              exact .inl ⟨rfl, gives_value (v := .bool true) (w' := W) (by go_simp) ⟨Below.refl _ _, fun u hu => by cases hu; rfl⟩⟩
            | 12, _, rfl =>
              have e11 : v11 = _ := hphi ⟨11, .data⟩ (by simp) rfl v11 rfl _ rfl
              have e9 : v9 = _ := hphi ⟨9, .guard⟩ (by simp) rfl v9 rfl _ rfl
              subst e9 e11
              exact .inl ⟨rfl, gives_value (v := .bool true) (w' := W) (by go_simp) ⟨Below.refl _ _, fun u hu => by cases hu; rfl⟩⟩
            | 13, _, rfl =>
              have e12 : v12 = _ := hphi ⟨12, .guard⟩ (by simp) rfl v12 rfl _ rfl
              subst e12
              exact .inr ⟨rfl, Below.refl _ _, fun u hu => by cases hu; rfl⟩
            | 14, _, rfl =>
              have e12 : v12 = _ := hphi ⟨12, .guard⟩ (by simp) rfl v12 rfl _ rfl
              subst e12
              exact .inr ⟨rfl, Below.refl _ _, fun u hu => by cases hu; rfl⟩
            | 15, _, rfl =>
              have e13 : v13 = _ := hphi ⟨13, .data⟩ (by simp) rfl v13 rfl _ rfl
              have e14 : v14 = _ := hphi ⟨14, .data⟩ (by simp) rfl v14 rfl _ rfl
              have e12 : v12 = _ := hphi ⟨12, .guard⟩ (by simp) rfl v12 rfl _ rfl
              subst e12 e13 e14
              exact .inr ⟨rfl, Below.refl _ _, fun u hu => by cases hu; rfl⟩
            | 16, _, rfl =>
              have e15 : v15 = _ := hphi ⟨15, .data⟩ (by simp) rfl v15 rfl _ rfl
              have e12 : v12 = _ := hphi ⟨12, .guard⟩ (by simp) rfl v12 rfl _ rfl
              subst e12 e15
              exact .inr ⟨rfl, Below.refl _ _, fun u hu => by cases hu; rfl⟩
            | 17, _, rfl =>
              have e16 : v16 = _ := hphi ⟨16, .data⟩ (by simp) rfl v16 rfl _ rfl
              have e12 : v12 = _ := hphi ⟨12, .guard⟩ (by simp) rfl v12 rfl _ rfl
              subst e12 e16
              exact .inr ⟨rfl, Below.refl _ _, fun u hu => by cases hu; rfl⟩
            | 18, _, rfl =>
              have e12 : v12 = _ := hphi ⟨12, .guard⟩ (by simp) rfl v12 rfl _ rfl
              subst e12
              exact .inr ⟨rfl, Below.refl _ _, fun u hu => by cases hu; rfl⟩
            | 19, _, rfl =>
              have e17 : v17 = _ := hphi ⟨17, .data⟩ (by simp) rfl v17 rfl _ rfl
              have e18 : v18 = _ := hphi ⟨18, .data⟩ (by simp) rfl v18 rfl _ rfl
              have e12 : v12 = _ := hphi ⟨12, .guard⟩ (by simp) rfl v12 rfl _ rfl
              subst e12 e17 e18
              exact .inr ⟨rfl, Below.refl _ _, fun u hu => by cases hu; rfl⟩
            | 20, _, rfl =>
              have e12 : v12 = _ := hphi ⟨12, .data⟩ (by simp) rfl v12 rfl _ rfl
              have e19 : v19 = _ := hphi ⟨19, .data⟩ (by simp) rfl v19 rfl _ rfl
              have e9 : v9 = _ := hphi ⟨9, .guard⟩ (by simp) rfl v9 rfl _ rfl
              subst e9 e12 e19
              exact .inl ⟨rfl, gives_value (v := .bool true) (w' := W) (by go_simp) ⟨Below.refl _ _, fun u hu => by cases hu; rfl⟩⟩
            | 21, _, rfl =>
              have e9 : v9 = _ := hphi ⟨9, .data⟩ (by simp) rfl v9 rfl _ rfl
              have e20 : v20 = _ := hphi ⟨20, .data⟩ (by simp) rfl v20 rfl _ rfl
              subst e9 e20
              exact .inl ⟨rfl, gives_value (v := .bool true) (w' := W) (by go_simp) ⟨Below.refl _ _, fun u hu => by cases hu; rfl⟩⟩
            | 22, _, rfl =>
              have e21 : v21 = _ := hphi ⟨21, .data⟩ (by simp) rfl v21 rfl _ rfl
              subst e21
              exact .inl ⟨rfl, gives_value (v := .bool true) (w' := W) (by go_simp) ⟨Below.refl _ _, fun u hu => by cases hu; rfl⟩⟩
            | 23, _, rfl =>
              have e22 : v22 = _ := hphi ⟨22, .guard⟩ (by simp) rfl v22 rfl _ rfl
              subst e22
              exact .inl ⟨rfl, gives_value (v := .slice (some ⟨b, off, none⟩) n c) (w' := W) (by go_simp) ⟨Below.refl _ _, fun u hu => by cases hu; rfl⟩⟩
            | 24, _, rfl =>
              have e22 : v22 = _ := hphi ⟨22, .guard⟩ (by simp) rfl v22 rfl _ rfl
              subst e22
              exact .inl ⟨rfl, gives_value (v := .slice (some ⟨b, off, none⟩) n c) (w' := W) (by go_simp) ⟨Below.refl _ _, fun u hu => by cases hu; rfl⟩⟩
            | 25, _, rfl =>
              have e22 : v22 = _ := hphi ⟨22, .guard⟩ (by simp) rfl v22 rfl _ rfl
              subst e22
              exact .inl ⟨rfl, gives_value (v := .int .i64 (k : Int)) (w' := W) (by go_simp) ⟨Below.refl _ _, fun u hu => by cases hu; rfl⟩⟩
            | 26, _, rfl =>
              have e24 : v24 = _ := hphi ⟨24, .data⟩ (by simp) rfl v24 rfl _ rfl
              have e25 : v25 = _ := hphi ⟨25, .data⟩ (by simp) rfl v25 rfl _ rfl
              have e22 : v22 = _ := hphi ⟨22, .guard⟩ (by simp) rfl v22 rfl _ rfl
              subst e22 e24 e25
              exact .inl ⟨rfl, gives_value (v := .pointer (some ⟨b, off + k * 4, none⟩)) (w' := W) (by go_simp) ⟨Below.refl _ _, fun u hu => by cases hu; rfl⟩⟩
            | 27, _, rfl =>
              have e26 : v26 = _ := hphi ⟨26, .data⟩ (by simp) rfl v26 rfl _ rfl
              have e22 : v22 = _ := hphi ⟨22, .guard⟩ (by simp) rfl v22 rfl _ rfl
              subst e22 e26
              exact .inl ⟨rfl, gives_value (v := .pointer (some ⟨b, off + k * 4, none⟩)) (w' := W) (by go_simp) ⟨Below.refl _ _, fun u hu => by cases hu; rfl⟩⟩
            | 28, _, rfl =>
              have e27 : v27 = _ := hphi ⟨27, .data⟩ (by simp) rfl v27 rfl _ rfl
              have e22 : v22 = _ := hphi ⟨22, .guard⟩ (by simp) rfl v22 rfl _ rfl
              subst e22 e27
              exact .inl ⟨rfl, gives_value (v := .string lab) (w' := W) (by go_simp) ⟨Below.refl _ _, fun u hu => by cases hu; rfl⟩⟩
            | 29, _, rfl =>
              have e23 : v23 = _ := hphi ⟨23, .data⟩ (by simp) rfl v23 rfl _ rfl
              have e28 : v28 = _ := hphi ⟨28, .data⟩ (by simp) rfl v28 rfl _ rfl
              have e22 : v22 = _ := hphi ⟨22, .guard⟩ (by simp) rfl v22 rfl _ rfl
              subst e22 e23 e28
              refine .inl ⟨rfl, gives_call (f := 75) (args := #[.slice (some ⟨b, off, none⟩) n c, .string lab]) (by go_simp) ((rreach_any (some ⟨b, off, none⟩) n c B ts lab W ((H0.out.below hBel.out hB).below hR (by omega)) (fun t ht => ((HOK.out t ht).below hBel.out hB).below hR (by omega)) (by omega) hn).mono ?_)⟩
              rintro e W' ⟨A', c', l', rfl, hs1, hs2, hs3, hs4, hs5, hs6, hs7⟩
              exact ⟨_, rfl, hs4, A', c', l', rfl, hs1, by rw [HL.out]; exact hs6, hs7⟩
            | 30, _, rfl =>
              have e22 : v22 = _ := hphi ⟨22, .guard⟩ (by simp) rfl v22 rfl _ rfl
              subst e22
              exact .inl ⟨rfl, gives_value (v := .slice (some ⟨b, off, none⟩) n c) (w' := W) (by go_simp) ⟨Below.refl _ _, fun u hu => by cases hu; rfl⟩⟩
            | 31, _, rfl =>
              have e22 : v22 = _ := hphi ⟨22, .guard⟩ (by simp) rfl v22 rfl _ rfl
              subst e22
              exact .inl ⟨rfl, gives_value (v := .int .i64 (k : Int)) (w' := W) (by go_simp) ⟨Below.refl _ _, fun u hu => by cases hu; rfl⟩⟩
            | 32, _, rfl =>
              have e30 : v30 = _ := hphi ⟨30, .data⟩ (by simp) rfl v30 rfl _ rfl
              have e31 : v31 = _ := hphi ⟨31, .data⟩ (by simp) rfl v31 rfl _ rfl
              have e22 : v22 = _ := hphi ⟨22, .guard⟩ (by simp) rfl v22 rfl _ rfl
              subst e22 e30 e31
              exact .inl ⟨rfl, gives_value (v := .pointer (some ⟨b, off + k * 4, none⟩)) (w' := W) (by go_simp) ⟨Below.refl _ _, fun u hu => by cases hu; rfl⟩⟩
            | 33, _, rfl =>
              have e32 : v32 = _ := hphi ⟨32, .data⟩ (by simp) rfl v32 rfl _ rfl
              have e22 : v22 = _ := hphi ⟨22, .guard⟩ (by simp) rfl v22 rfl _ rfl
              subst e22 e32
              exact .inl ⟨rfl, gives_value (v := .pointer (some ⟨b, off + k * 4, none⟩)) (w' := W) (by go_simp) ⟨Below.refl _ _, fun u hu => by cases hu; rfl⟩⟩
            | 34, _, rfl =>
              have e33 : v33 = _ := hphi ⟨33, .data⟩ (by simp) rfl v33 rfl _ rfl
              have e22 : v22 = _ := hphi ⟨22, .guard⟩ (by simp) rfl v22 rfl _ rfl
              subst e22 e33
              exact .inl ⟨rfl, gives_value (v := .string lab) (w' := W) (by go_simp) ⟨Below.refl _ _, fun u hu => by cases hu; rfl⟩⟩
            | 35, _, rfl =>
              obtain ⟨A29, c29, l29, e29, g1, g2, g3⟩ : ∃ A29 c29, ∃ l29 : List ByteArray, v29 = .slice A29 l29.length c29 ∧ Sl W W.heap.size 1 A29 l29.length (strs l29) ∧ l29.length ≤ n ∧ ∀ x, x ∈ l29 ↔ Rch (nxT ts) lab x := by
                have := hphi ⟨29, .data⟩ (by simp) rfl v29 rfl
                obtain ⟨a1, a2, a3, a4, a5, a6, a7⟩ := this
                exact ⟨a1, a2, a3, a4, a5, by rw [← HL.out]; exact a6, a7⟩
              have e34 : v34 = _ := hphi ⟨34, .data⟩ (by simp) rfl v34 rfl _ rfl
              have e22 : v22 = _ := hphi ⟨22, .guard⟩ (by simp) rfl v22 rfl _ rfl
              subst e34 e29 e22
              refine .inl ⟨rfl, gives_call (f := 73) (args := #[.slice A29 l29.length c29, .string lab]) (by go_simp) ((rhas_any A29 l29.length l29.length c29 W.heap.size l29 lab W g1 (Nat.le_refl _) (by omega)).mono ?_)⟩
              rintro e W' ⟨rfl, rfl⟩
              exact ⟨_, rfl, Below.refl _ _, fun u hu => by cases hu; rw [List.take_length]; exact congrArg Value.bool (Bool.eq_iff_iff.2 ((memB_iff _ _).trans ((g3 lab).trans HRB.out.symm)))⟩
            | i + 36, hi, _ => exact absurd hi (by omega)
          case tailFIRST =>
            intro vs W hv hR hphi
            obtain ⟨v0, v1, v2, v3, v4, v5, v6, v7, v8, v9, v10, v11, v12, v13, v14, v15, v16, v17, v18, v19, v20, v21, v22, v23, v24, v25, v26, v27, v28, v29, v30, v31, v32, v33, v34, v35, rfl⟩ := list36 hv
            simp only [List.zip, List.zipWith, putAll, Act.put, List.setIfInBounds_toArray, List.set, List.drop]
            have e22 : v22 = _ := hphi 22 v22 rfl _ rfl
            have e35 : v35 = _ := hphi 35 v35 rfl _ rfl
            subst e22 e35
            have HBW : Hid (Below w.heap.size w W) := hBel.out.trans (hR.mono hBel.out.size)
            have HBR := Lib.hid hR
            clear hphi hR
            cases rb with
            | false =>
              have HK2 : Hid (LstK ts (k + 1) false out) := hK.out.pass HT.out (fun hr => by
                rw [HLB.out] at hr
                have := HRB.out.2 hr; cases this)
              go_wp2
              go_roundw
              case rel => exact ⟨k + 1, out, false, by omega, by go_num, rfl, rfl, HK2.out, HBW.out⟩
              case measure => simp [intOf]; omega
            | true =>
              have HK2 : Hid (LstK ts (k + 1) true lab) := by
                have := hK.out.got HT.out (by rw [HLB.out]; exact HRB.out.1 rfl) (fun h => by cases h)
                rw [HLB.out] at this; exact this
              have l0 := (HBR.out.cell (p := ⟨b, off + k * 4, none⟩) (by show b < _; omega)).trans HY0.out
              go_wp2
              go_roundw
              case rel => exact ⟨k + 1, lab, true, by omega, by go_num, rfl, rfl, HK2.out, HBW.out⟩
              case measure => simp [intOf]; omega
        | true =>
          have t1 := less_str lab out
          cases hl : less lab out with
          | true =>
            rw [hl] at t1
            have HLS := Lib.hid hl
            clear hl
            go_wp2_with fail
            refine wp_region_stableGD 36 (13 :: 14 :: 15 :: 16 :: 17 :: 18 :: 19 :: 20 :: 21 :: 22 :: 23 :: 24 :: 25 :: 26 :: 27 :: 28 :: 29 :: 30 :: 31 :: 32 :: 33 :: 34 :: 35 :: 36 :: 37 :: 38 :: 39 :: 40 :: 41 :: 42 :: 43 :: 44 :: 45 :: 46 :: 47 :: 48 :: []) (by kernel_rfl) (by kernel_rfl) (by kernel_rfl) (fun W => Below wr.heap.size wr W) (fun W W' => Below W.heap.size W W')
              (lstPhi true ((.slice (some ⟨b, off, none⟩) n c) :: (.slice (some ⟨b, off, none⟩) n c) :: (.int .i64 (k : Int)) :: (.pointer (some ⟨b, off + k * 4, none⟩)) :: (.pointer (some ⟨b, off + k * 4, none⟩)) :: (.string lab) :: (.int .i64 (k : Int)) :: (.int .i64 (k : Int)) :: (.bool true) :: (.bool true) :: (.bool true) :: (.bool false) :: (.bool false) :: (.slice (some ⟨b, off, none⟩) n c) :: (.int .i64 (k : Int)) :: (.pointer (some ⟨b, off + k * 4, none⟩)) :: (.pointer (some ⟨b, off + k * 4, none⟩)) :: (.string lab) :: (.string out) :: (.bool true) :: (.bool true) :: (.bool true) :: (.bool true) :: (.slice (some ⟨b, off, none⟩) n c) :: (.slice (some ⟨b, off, none⟩) n c) :: (.int .i64 (k : Int)) :: (.pointer (some ⟨b, off + k * 4, none⟩)) :: (.pointer (some ⟨b, off + k * 4, none⟩)) :: (.string lab) :: undef :: (.slice (some ⟨b, off, none⟩) n c) :: (.int .i64 (k : Int)) :: (.pointer (some ⟨b, off + k * 4, none⟩)) :: (.pointer (some ⟨b, off + k * 4, none⟩)) :: (.string lab) :: (.bool rb) :: []) ts lab) (fun W W' h1 h2 => h1.trans (h2.mono h1.size)) (fun i v W W' h hb => lstPhi_keep i v W W' h hb) (Below.refl _ _).drew ?stepBETTER ?tailBETTER
            case stepBETTER =>
              intro i o vs W hi ho hv hR hphi
              obtain ⟨v0, v1, v2, v3, v4, v5, v6, v7, v8, v9, v10, v11, v12, v13, v14, v15, v16, v17, v18, v19, v20, v21, v22, v23, v24, v25, v26, v27, v28, v29, v30, v31, v32, v33, v34, v35, rfl⟩ := list36 hv
              simp only [List.zip, List.zipWith, putAll, Act.put, List.setIfInBounds_toArray, List.set]
              have l0 := (hR.cell (p := ⟨b, off + k * 4, none⟩) (by show b < _; omega)).trans HY0.out
              have hWz := hR.size
              match i, hi, ho with
              | 0, _, rfl =>
                exact .inl ⟨rfl, gives_value (v := .slice (some ⟨b, off, none⟩) n c) (w' := W) (by go_simp) ⟨Below.refl _ _, fun u hu => by cases hu; rfl⟩⟩
              | 1, _, rfl =>
                exact .inl ⟨rfl, gives_value (v := .slice (some ⟨b, off, none⟩) n c) (w' := W) (by go_simp) ⟨Below.refl _ _, fun u hu => by cases hu; rfl⟩⟩
              | 2, _, rfl =>
                exact .inl ⟨rfl, gives_value (v := .int .i64 (k : Int)) (w' := W) (by go_simp) ⟨Below.refl _ _, fun u hu => by cases hu; rfl⟩⟩
              | 3, _, rfl =>
                have e1 : v1 = _ := hphi ⟨1, .data⟩ (by simp) rfl v1 rfl _ rfl
                have e2 : v2 = _ := hphi ⟨2, .data⟩ (by simp) rfl v2 rfl _ rfl
                subst e1 e2
                exact .inl ⟨rfl, gives_value (v := .pointer (some ⟨b, off + k * 4, none⟩)) (w' := W) (by go_simp) ⟨Below.refl _ _, fun u hu => by cases hu; rfl⟩⟩
              | 4, _, rfl =>
                have e3 : v3 = _ := hphi ⟨3, .data⟩ (by simp) rfl v3 rfl _ rfl
                subst e3
                exact .inl ⟨rfl, gives_value (v := .pointer (some ⟨b, off + k * 4, none⟩)) (w' := W) (by go_simp) ⟨Below.refl _ _, fun u hu => by cases hu; rfl⟩⟩
              | 5, _, rfl =>
                have e4 : v4 = _ := hphi ⟨4, .data⟩ (by simp) rfl v4 rfl _ rfl
                subst e4
                exact .inl ⟨rfl, gives_value (v := .string lab) (w' := W) (by go_simp) ⟨Below.refl _ _, fun u hu => by cases hu; rfl⟩⟩
              | 6, _, rfl =>
                have e0 : v0 = _ := hphi ⟨0, .data⟩ (by simp) rfl v0 rfl _ rfl
                have e5 : v5 = _ := hphi ⟨5, .data⟩ (by simp) rfl v5 rfl _ rfl
                subst e0 e5
                refine .inl ⟨rfl, gives_call (f := 68) (args := #[.slice (some ⟨b, off, none⟩) n c, .string lab]) (by go_simp) ((rfind_any (some ⟨b, off, none⟩) n c B ts lab W ((H0.out.below hBel.out hB).below hR (by omega)) (by omega)).mono ?_)⟩
                rintro e W' ⟨rfl, rfl⟩
                exact ⟨_, rfl, Below.refl _ _, fun u hu => by cases hu; rw [HPO.out]⟩
              | 7, _, rfl =>
                exact .inl ⟨rfl, gives_value (v := .int .i64 (k : Int)) (w' := W) (by go_simp) ⟨Below.refl _ _, fun u hu => by cases hu; rfl⟩⟩
              | 8, _, rfl =>
                have e6 : v6 = _ := hphi ⟨6, .data⟩ (by simp) rfl v6 rfl _ rfl
                have e7 : v7 = _ := hphi ⟨7, .data⟩ (by simp) rfl v7 rfl _ rfl
                subst e6 e7
                exact .inl ⟨rfl, gives_value (v := .bool true) (w' := W) (by go_simp) ⟨Below.refl _ _, fun u hu => by cases hu; rfl⟩⟩
              | 9, _, rfl =>
                have e8 : v8 = _ := hphi ⟨8, .data⟩ (by simp) rfl v8 rfl _ rfl
                subst e8
                exact .inl ⟨rfl, gives_value (v := .bool true) (w' := W) (by go_simp) ⟨Below.refl _ _, fun u hu => by cases hu; rfl⟩⟩
              | 10, _, rfl =>
                have e9 : v9 = _ := hphi ⟨9, .guard⟩ (by simp) rfl v9 rfl _ rfl
                subst e9
                exact .inl ⟨rfl, gives_value (v := .bool true) (w' := W) (by go_simp) ⟨Below.refl _ _, fun u hu => by cases hu; rfl⟩⟩
              | 11, _, rfl =>
                have e10 : v10 = _ := hphi ⟨10, .data⟩ (by simp) rfl v10 rfl _ rfl
                have e9 : v9 = _ := hphi ⟨9, .guard⟩ (by simp) rfl v9 rfl _ rfl
                subst e9 e10
                exact .inl ⟨rfl, gives_value (v := .bool false) (w' := W) (by go_simp) ⟨Below.refl _ _, fun u hu => by cases hu; rfl⟩⟩
              | 12, _, rfl =>
                have e11 : v11 = _ := hphi ⟨11, .data⟩ (by simp) rfl v11 rfl _ rfl
                have e9 : v9 = _ := hphi ⟨9, .guard⟩ (by simp) rfl v9 rfl _ rfl
                subst e9 e11
                exact .inl ⟨rfl, gives_value (v := .bool false) (w' := W) (by go_simp) ⟨Below.refl _ _, fun u hu => by cases hu; rfl⟩⟩
              | 13, _, rfl =>
                have e12 : v12 = _ := hphi ⟨12, .guard⟩ (by simp) rfl v12 rfl _ rfl
                subst e12
                exact .inl ⟨rfl, gives_value (v := .slice (some ⟨b, off, none⟩) n c) (w' := W) (by go_simp) ⟨Below.refl _ _, fun u hu => by cases hu; rfl⟩⟩
              | 14, _, rfl =>
                have e12 : v12 = _ := hphi ⟨12, .guard⟩ (by simp) rfl v12 rfl _ rfl
                subst e12
                exact .inl ⟨rfl, gives_value (v := .int .i64 (k : Int)) (w' := W) (by go_simp) ⟨Below.refl _ _, fun u hu => by cases hu; rfl⟩⟩
              | 15, _, rfl =>
                have e13 : v13 = _ := hphi ⟨13, .data⟩ (by simp) rfl v13 rfl _ rfl
                have e14 : v14 = _ := hphi ⟨14, .data⟩ (by simp) rfl v14 rfl _ rfl
                have e12 : v12 = _ := hphi ⟨12, .guard⟩ (by simp) rfl v12 rfl _ rfl
                subst e12 e13 e14
                exact .inl ⟨rfl, gives_value (v := .pointer (some ⟨b, off + k * 4, none⟩)) (w' := W) (by go_simp) ⟨Below.refl _ _, fun u hu => by cases hu; rfl⟩⟩
              | 16, _, rfl =>
                have e15 : v15 = _ := hphi ⟨15, .data⟩ (by simp) rfl v15 rfl _ rfl
                have e12 : v12 = _ := hphi ⟨12, .guard⟩ (by simp) rfl v12 rfl _ rfl
                subst e12 e15
                exact .inl ⟨rfl, gives_value (v := .pointer (some ⟨b, off + k * 4, none⟩)) (w' := W) (by go_simp) ⟨Below.refl _ _, fun u hu => by cases hu; rfl⟩⟩
              | 17, _, rfl =>
                have e16 : v16 = _ := hphi ⟨16, .data⟩ (by simp) rfl v16 rfl _ rfl
                have e12 : v12 = _ := hphi ⟨12, .guard⟩ (by simp) rfl v12 rfl _ rfl
                subst e12 e16
                exact .inl ⟨rfl, gives_value (v := .string lab) (w' := W) (by go_simp) ⟨Below.refl _ _, fun u hu => by cases hu; rfl⟩⟩
              | 18, _, rfl =>
                have e12 : v12 = _ := hphi ⟨12, .guard⟩ (by simp) rfl v12 rfl _ rfl
                subst e12
                exact .inl ⟨rfl, gives_value (v := .string out) (w' := W) (by go_simp) ⟨Below.refl _ _, fun u hu => by cases hu; rfl⟩⟩
              | 19, _, rfl =>
                have e17 : v17 = _ := hphi ⟨17, .data⟩ (by simp) rfl v17 rfl _ rfl
                have e18 : v18 = _ := hphi ⟨18, .data⟩ (by simp) rfl v18 rfl _ rfl
                have e12 : v12 = _ := hphi ⟨12, .guard⟩ (by simp) rfl v12 rfl _ rfl
                subst e12 e17 e18
                exact .inl ⟨rfl, gives_value (v := .bool true) (w' := W) (by go_simp) ⟨Below.refl _ _, fun u hu => by cases hu; rfl⟩⟩
              | 20, _, rfl =>
                have e12 : v12 = _ := hphi ⟨12, .data⟩ (by simp) rfl v12 rfl _ rfl
                have e19 : v19 = _ := hphi ⟨19, .data⟩ (by simp) rfl v19 rfl _ rfl
                have e9 : v9 = _ := hphi ⟨9, .guard⟩ (by simp) rfl v9 rfl _ rfl
                subst e9 e12 e19
                exact .inl ⟨rfl, gives_value (v := .bool true) (w' := W) (by go_simp) ⟨Below.refl _ _, fun u hu => by cases hu; rfl⟩⟩
              | 21, _, rfl =>
                have e9 : v9 = _ := hphi ⟨9, .data⟩ (by simp) rfl v9 rfl _ rfl
                have e20 : v20 = _ := hphi ⟨20, .data⟩ (by simp) rfl v20 rfl _ rfl
                subst e9 e20
                exact .inl ⟨rfl, gives_value (v := .bool true) (w' := W) (by go_simp) ⟨Below.refl _ _, fun u hu => by cases hu; rfl⟩⟩
              | 22, _, rfl =>
                have e21 : v21 = _ := hphi ⟨21, .data⟩ (by simp) rfl v21 rfl _ rfl
                subst e21
                exact .inl ⟨rfl, gives_value (v := .bool true) (w' := W) (by go_simp) ⟨Below.refl _ _, fun u hu => by cases hu; rfl⟩⟩
              | 23, _, rfl =>
                have e22 : v22 = _ := hphi ⟨22, .guard⟩ (by simp) rfl v22 rfl _ rfl
                subst e22
                exact .inl ⟨rfl, gives_value (v := .slice (some ⟨b, off, none⟩) n c) (w' := W) (by go_simp) ⟨Below.refl _ _, fun u hu => by cases hu; rfl⟩⟩
              | 24, _, rfl =>
                have e22 : v22 = _ := hphi ⟨22, .guard⟩ (by simp) rfl v22 rfl _ rfl
                subst e22
                exact .inl ⟨rfl, gives_value (v := .slice (some ⟨b, off, none⟩) n c) (w' := W) (by go_simp) ⟨Below.refl _ _, fun u hu => by cases hu; rfl⟩⟩
              | 25, _, rfl =>
                have e22 : v22 = _ := hphi ⟨22, .guard⟩ (by simp) rfl v22 rfl _ rfl
                subst e22
                exact .inl ⟨rfl, gives_value (v := .int .i64 (k : Int)) (w' := W) (by go_simp) ⟨Below.refl _ _, fun u hu => by cases hu; rfl⟩⟩
              | 26, _, rfl =>
                have e24 : v24 = _ := hphi ⟨24, .data⟩ (by simp) rfl v24 rfl _ rfl
                have e25 : v25 = _ := hphi ⟨25, .data⟩ (by simp) rfl v25 rfl _ rfl
                have e22 : v22 = _ := hphi ⟨22, .guard⟩ (by simp) rfl v22 rfl _ rfl
                subst e22 e24 e25
                exact .inl ⟨rfl, gives_value (v := .pointer (some ⟨b, off + k * 4, none⟩)) (w' := W) (by go_simp) ⟨Below.refl _ _, fun u hu => by cases hu; rfl⟩⟩
              | 27, _, rfl =>
                have e26 : v26 = _ := hphi ⟨26, .data⟩ (by simp) rfl v26 rfl _ rfl
                have e22 : v22 = _ := hphi ⟨22, .guard⟩ (by simp) rfl v22 rfl _ rfl
                subst e22 e26
                exact .inl ⟨rfl, gives_value (v := .pointer (some ⟨b, off + k * 4, none⟩)) (w' := W) (by go_simp) ⟨Below.refl _ _, fun u hu => by cases hu; rfl⟩⟩
              | 28, _, rfl =>
                have e27 : v27 = _ := hphi ⟨27, .data⟩ (by simp) rfl v27 rfl _ rfl
                have e22 : v22 = _ := hphi ⟨22, .guard⟩ (by simp) rfl v22 rfl _ rfl
                subst e22 e27
                exact .inl ⟨rfl, gives_value (v := .string lab) (w' := W) (by go_simp) ⟨Below.refl _ _, fun u hu => by cases hu; rfl⟩⟩
              | 29, _, rfl =>
                have e23 : v23 = _ := hphi ⟨23, .data⟩ (by simp) rfl v23 rfl _ rfl
                have e28 : v28 = _ := hphi ⟨28, .data⟩ (by simp) rfl v28 rfl _ rfl
                have e22 : v22 = _ := hphi ⟨22, .guard⟩ (by simp) rfl v22 rfl _ rfl
                subst e22 e23 e28
                refine .inl ⟨rfl, gives_call (f := 75) (args := #[.slice (some ⟨b, off, none⟩) n c, .string lab]) (by go_simp) ((rreach_any (some ⟨b, off, none⟩) n c B ts lab W ((H0.out.below hBel.out hB).below hR (by omega)) (fun t ht => ((HOK.out t ht).below hBel.out hB).below hR (by omega)) (by omega) hn).mono ?_)⟩
                rintro e W' ⟨A', c', l', rfl, hs1, hs2, hs3, hs4, hs5, hs6, hs7⟩
                exact ⟨_, rfl, hs4, A', c', l', rfl, hs1, by rw [HL.out]; exact hs6, hs7⟩
              | 30, _, rfl =>
                have e22 : v22 = _ := hphi ⟨22, .guard⟩ (by simp) rfl v22 rfl _ rfl
                subst e22
                exact .inl ⟨rfl, gives_value (v := .slice (some ⟨b, off, none⟩) n c) (w' := W) (by go_simp) ⟨Below.refl _ _, fun u hu => by cases hu; rfl⟩⟩
              | 31, _, rfl =>
                have e22 : v22 = _ := hphi ⟨22, .guard⟩ (by simp) rfl v22 rfl _ rfl
                subst e22
                exact .inl ⟨rfl, gives_value (v := .int .i64 (k : Int)) (w' := W) (by go_simp) ⟨Below.refl _ _, fun u hu => by cases hu; rfl⟩⟩
              | 32, _, rfl =>
                have e30 : v30 = _ := hphi ⟨30, .data⟩ (by simp) rfl v30 rfl _ rfl
                have e31 : v31 = _ := hphi ⟨31, .data⟩ (by simp) rfl v31 rfl _ rfl
                have e22 : v22 = _ := hphi ⟨22, .guard⟩ (by simp) rfl v22 rfl _ rfl
                subst e22 e30 e31
                exact .inl ⟨rfl, gives_value (v := .pointer (some ⟨b, off + k * 4, none⟩)) (w' := W) (by go_simp) ⟨Below.refl _ _, fun u hu => by cases hu; rfl⟩⟩
              | 33, _, rfl =>
                have e32 : v32 = _ := hphi ⟨32, .data⟩ (by simp) rfl v32 rfl _ rfl
                have e22 : v22 = _ := hphi ⟨22, .guard⟩ (by simp) rfl v22 rfl _ rfl
                subst e22 e32
                exact .inl ⟨rfl, gives_value (v := .pointer (some ⟨b, off + k * 4, none⟩)) (w' := W) (by go_simp) ⟨Below.refl _ _, fun u hu => by cases hu; rfl⟩⟩
              | 34, _, rfl =>
                have e33 : v33 = _ := hphi ⟨33, .data⟩ (by simp) rfl v33 rfl _ rfl
                have e22 : v22 = _ := hphi ⟨22, .guard⟩ (by simp) rfl v22 rfl _ rfl
                subst e22 e33
                exact .inl ⟨rfl, gives_value (v := .string lab) (w' := W) (by go_simp) ⟨Below.refl _ _, fun u hu => by cases hu; rfl⟩⟩
              | 35, _, rfl =>
                obtain ⟨A29, c29, l29, e29, g1, g2, g3⟩ : ∃ A29 c29, ∃ l29 : List ByteArray, v29 = .slice A29 l29.length c29 ∧ Sl W W.heap.size 1 A29 l29.length (strs l29) ∧ l29.length ≤ n ∧ ∀ x, x ∈ l29 ↔ Rch (nxT ts) lab x := by
                  have := hphi ⟨29, .data⟩ (by simp) rfl v29 rfl
                  obtain ⟨a1, a2, a3, a4, a5, a6, a7⟩ := this
                  exact ⟨a1, a2, a3, a4, a5, by rw [← HL.out]; exact a6, a7⟩
                have e34 : v34 = _ := hphi ⟨34, .data⟩ (by simp) rfl v34 rfl _ rfl
                have e22 : v22 = _ := hphi ⟨22, .guard⟩ (by simp) rfl v22 rfl _ rfl
                subst e34 e29 e22
                refine .inl ⟨rfl, gives_call (f := 73) (args := #[.slice A29 l29.length c29, .string lab]) (by go_simp) ((rhas_any A29 l29.length l29.length c29 W.heap.size l29 lab W g1 (Nat.le_refl _) (by omega)).mono ?_)⟩
                rintro e W' ⟨rfl, rfl⟩
                exact ⟨_, rfl, Below.refl _ _, fun u hu => by cases hu; rw [List.take_length]; exact congrArg Value.bool (Bool.eq_iff_iff.2 ((memB_iff _ _).trans ((g3 lab).trans HRB.out.symm)))⟩
              | i + 36, hi, _ => exact absurd hi (by omega)
            case tailBETTER =>
              intro vs W hv hR hphi
              obtain ⟨v0, v1, v2, v3, v4, v5, v6, v7, v8, v9, v10, v11, v12, v13, v14, v15, v16, v17, v18, v19, v20, v21, v22, v23, v24, v25, v26, v27, v28, v29, v30, v31, v32, v33, v34, v35, rfl⟩ := list36 hv
              simp only [List.zip, List.zipWith, putAll, Act.put, List.setIfInBounds_toArray, List.set, List.drop]
              have e22 : v22 = _ := hphi 22 v22 rfl _ rfl
              have e35 : v35 = _ := hphi 35 v35 rfl _ rfl
              subst e22 e35
              have HBW : Hid (Below w.heap.size w W) := hBel.out.trans (hR.mono hBel.out.size)
              have HBR := Lib.hid hR
              clear hphi hR
              cases rb with
              | false =>
                have HK2 : Hid (LstK ts (k + 1) true out) := hK.out.pass HT.out (fun hr => by
                  rw [HLB.out] at hr
                  have := HRB.out.2 hr; cases this)
                go_wp2
                go_roundw
                case rel => exact ⟨k + 1, out, true, by omega, by go_num, rfl, rfl, HK2.out, HBW.out⟩
                case measure => simp [intOf]; omega
              | true =>
                have HK2 : Hid (LstK ts (k + 1) true lab) := by
                  have := hK.out.got HT.out (by rw [HLB.out]; exact HRB.out.1 rfl) (fun _ => by rw [HLB.out]; exact HLS.out)
                  rw [HLB.out] at this; exact this
                have l0 := (HBR.out.cell (p := ⟨b, off + k * 4, none⟩) (by show b < _; omega)).trans HY0.out
                go_wp2
                go_roundw
                case rel => exact ⟨k + 1, lab, true, by omega, by go_num, rfl, rfl, HK2.out, HBW.out⟩
                case measure => simp [intOf]; omega
          | false =>
            rw [hl] at t1
            have HK2 : Hid (LstK ts (k + 1) true out) := hK.out.pass HT.out (fun _ => ⟨rfl, by rw [HLB.out]; exact hl⟩)
            clear hl
            go_wp2_with fail
            refine wp_region_stableGD 36 (13 :: 14 :: 15 :: 16 :: 17 :: 18 :: 19 :: 20 :: 21 :: 22 :: 23 :: 24 :: 25 :: 26 :: 27 :: 28 :: 29 :: 30 :: 31 :: 32 :: 33 :: 34 :: 35 :: 36 :: 37 :: 38 :: 39 :: 40 :: 41 :: 42 :: 43 :: 44 :: 45 :: 46 :: 47 :: 48 :: []) (by kernel_rfl) (by kernel_rfl) (by kernel_rfl) (fun W => Below wr.heap.size wr W) (fun W W' => Below W.heap.size W W')
              (lstPhi false ((.slice (some ⟨b, off, none⟩) n c) :: (.slice (some ⟨b, off, none⟩) n c) :: (.int .i64 (k : Int)) :: (.pointer (some ⟨b, off + k * 4, none⟩)) :: (.pointer (some ⟨b, off + k * 4, none⟩)) :: (.string lab) :: (.int .i64 (k : Int)) :: (.int .i64 (k : Int)) :: (.bool true) :: (.bool true) :: (.bool true) :: (.bool false) :: (.bool false) :: (.slice (some ⟨b, off, none⟩) n c) :: (.int .i64 (k : Int)) :: (.pointer (some ⟨b, off + k * 4, none⟩)) :: (.pointer (some ⟨b, off + k * 4, none⟩)) :: (.string lab) :: (.string out) :: (.bool false) :: (.bool false) :: (.bool false) :: (.bool false) :: (undef) :: (undef) :: (undef) :: (undef) :: (undef) :: (undef) :: (undef) :: (undef) :: (undef) :: (undef) :: (undef) :: (undef) :: (undef) :: []) ts lab) (fun W W' h1 h2 => h1.trans (h2.mono h1.size)) (fun i v W W' h hb => lstPhi_keep i v W W' h hb) (Below.refl _ _).drew ?stepKEEP ?tailKEEP
            case stepKEEP =>
              intro i o vs W hi ho hv hR hphi
              obtain ⟨v0, v1, v2, v3, v4, v5, v6, v7, v8, v9, v10, v11, v12, v13, v14, v15, v16, v17, v18, v19, v20, v21, v22, v23, v24, v25, v26, v27, v28, v29, v30, v31, v32, v33, v34, v35, rfl⟩ := list36 hv
              simp only [List.zip, List.zipWith, putAll, Act.put, List.setIfInBounds_toArray, List.set]
              have l0 := (hR.cell (p := ⟨b, off + k * 4, none⟩) (by show b < _; omega)).trans HY0.out
              have hWz := hR.size
              match i, hi, ho with
              | 0, _, rfl =>
                exact .inl ⟨rfl, gives_value (v := .slice (some ⟨b, off, none⟩) n c) (w' := W) (by go_simp) ⟨Below.refl _ _, fun u hu => by cases hu; rfl⟩⟩
              | 1, _, rfl =>
                exact .inl ⟨rfl, gives_value (v := .slice (some ⟨b, off, none⟩) n c) (w' := W) (by go_simp) ⟨Below.refl _ _, fun u hu => by cases hu; rfl⟩⟩
              | 2, _, rfl =>
                exact .inl ⟨rfl, gives_value (v := .int .i64 (k : Int)) (w' := W) (by go_simp) ⟨Below.refl _ _, fun u hu => by cases hu; rfl⟩⟩
              | 3, _, rfl =>
                have e1 : v1 = _ := hphi ⟨1, .data⟩ (by simp) rfl v1 rfl _ rfl
                have e2 : v2 = _ := hphi ⟨2, .data⟩ (by simp) rfl v2 rfl _ rfl
                subst e1 e2
                exact .inl ⟨rfl, gives_value (v := .pointer (some ⟨b, off + k * 4, none⟩)) (w' := W) (by go_simp) ⟨Below.refl _ _, fun u hu => by cases hu; rfl⟩⟩
              | 4, _, rfl =>
                have e3 : v3 = _ := hphi ⟨3, .data⟩ (by simp) rfl v3 rfl _ rfl
                subst e3
                exact .inl ⟨rfl, gives_value (v := .pointer (some ⟨b, off + k * 4, none⟩)) (w' := W) (by go_simp) ⟨Below.refl _ _, fun u hu => by cases hu; rfl⟩⟩
              | 5, _, rfl =>
                have e4 : v4 = _ := hphi ⟨4, .data⟩ (by simp) rfl v4 rfl _ rfl
                subst e4
                exact .inl ⟨rfl, gives_value (v := .string lab) (w' := W) (by go_simp) ⟨Below.refl _ _, fun u hu => by cases hu; rfl⟩⟩
              | 6, _, rfl =>
                have e0 : v0 = _ := hphi ⟨0, .data⟩ (by simp) rfl v0 rfl _ rfl
                have e5 : v5 = _ := hphi ⟨5, .data⟩ (by simp) rfl v5 rfl _ rfl
                subst e0 e5
                refine .inl ⟨rfl, gives_call (f := 68) (args := #[.slice (some ⟨b, off, none⟩) n c, .string lab]) (by go_simp) ((rfind_any (some ⟨b, off, none⟩) n c B ts lab W ((H0.out.below hBel.out hB).below hR (by omega)) (by omega)).mono ?_)⟩
                rintro e W' ⟨rfl, rfl⟩
                exact ⟨_, rfl, Below.refl _ _, fun u hu => by cases hu; rw [HPO.out]⟩
              | 7, _, rfl =>
                exact .inl ⟨rfl, gives_value (v := .int .i64 (k : Int)) (w' := W) (by go_simp) ⟨Below.refl _ _, fun u hu => by cases hu; rfl⟩⟩
              | 8, _, rfl =>
                have e6 : v6 = _ := hphi ⟨6, .data⟩ (by simp) rfl v6 rfl _ rfl
                have e7 : v7 = _ := hphi ⟨7, .data⟩ (by simp) rfl v7 rfl _ rfl
                subst e6 e7
                exact .inl ⟨rfl, gives_value (v := .bool true) (w' := W) (by go_simp) ⟨Below.refl _ _, fun u hu => by cases hu; rfl⟩⟩
              | 9, _, rfl =>
                have e8 : v8 = _ := hphi ⟨8, .data⟩ (by simp) rfl v8 rfl _ rfl
                subst e8
                exact .inl ⟨rfl, gives_value (v := .bool true) (w' := W) (by go_simp) ⟨Below.refl _ _, fun u hu => by cases hu; rfl⟩⟩
              | 10, _, rfl =>
                have e9 : v9 = _ := hphi ⟨9, .guard⟩ (by simp) rfl v9 rfl _ rfl
                subst e9
                exact .inl ⟨rfl, gives_value (v := .bool true) (w' := W) (by go_simp) ⟨Below.refl _ _, fun u hu => by cases hu; rfl⟩⟩
              | 11, _, rfl =>
                have e10 : v10 = _ := hphi ⟨10, .data⟩ (by simp) rfl v10 rfl _ rfl
                have e9 : v9 = _ := hphi ⟨9, .guard⟩ (by simp) rfl v9 rfl _ rfl
                subst e9 e10
                exact .inl ⟨rfl, gives_value (v := .bool false) (w' := W) (by go_simp) ⟨Below.refl _ _, fun u hu => by cases hu; rfl⟩⟩
              | 12, _, rfl =>
                have e11 : v11 = _ := hphi ⟨11, .data⟩ (by simp) rfl v11 rfl _ rfl
                have e9 : v9 = _ := hphi ⟨9, .guard⟩ (by simp) rfl v9 rfl _ rfl
                subst e9 e11
                exact .inl ⟨rfl, gives_value (v := .bool false) (w' := W) (by go_simp) ⟨Below.refl _ _, fun u hu => by cases hu; rfl⟩⟩
              | 13, _, rfl =>
                have e12 : v12 = _ := hphi ⟨12, .guard⟩ (by simp) rfl v12 rfl _ rfl
                subst e12
                exact .inl ⟨rfl, gives_value (v := .slice (some ⟨b, off, none⟩) n c) (w' := W) (by go_simp) ⟨Below.refl _ _, fun u hu => by cases hu; rfl⟩⟩
              | 14, _, rfl =>
                have e12 : v12 = _ := hphi ⟨12, .guard⟩ (by simp) rfl v12 rfl _ rfl
                subst e12
                exact .inl ⟨rfl, gives_value (v := .int .i64 (k : Int)) (w' := W) (by go_simp) ⟨Below.refl _ _, fun u hu => by cases hu; rfl⟩⟩
              | 15, _, rfl =>
                have e13 : v13 = _ := hphi ⟨13, .data⟩ (by simp) rfl v13 rfl _ rfl
                have e14 : v14 = _ := hphi ⟨14, .data⟩ (by simp) rfl v14 rfl _ rfl
                have e12 : v12 = _ := hphi ⟨12, .guard⟩ (by simp) rfl v12 rfl _ rfl
                subst e12 e13 e14
                exact .inl ⟨rfl, gives_value (v := .pointer (some ⟨b, off + k * 4, none⟩)) (w' := W) (by go_simp) ⟨Below.refl _ _, fun u hu => by cases hu; rfl⟩⟩
              | 16, _, rfl =>
                have e15 : v15 = _ := hphi ⟨15, .data⟩ (by simp) rfl v15 rfl _ rfl
                have e12 : v12 = _ := hphi ⟨12, .guard⟩ (by simp) rfl v12 rfl _ rfl
                subst e12 e15
                exact .inl ⟨rfl, gives_value (v := .pointer (some ⟨b, off + k * 4, none⟩)) (w' := W) (by go_simp) ⟨Below.refl _ _, fun u hu => by cases hu; rfl⟩⟩
              | 17, _, rfl =>
                have e16 : v16 = _ := hphi ⟨16, .data⟩ (by simp) rfl v16 rfl _ rfl
                have e12 : v12 = _ := hphi ⟨12, .guard⟩ (by simp) rfl v12 rfl _ rfl
                subst e12 e16
                exact .inl ⟨rfl, gives_value (v := .string lab) (w' := W) (by go_simp) ⟨Below.refl _ _, fun u hu => by cases hu; rfl⟩⟩
              | 18, _, rfl =>
                have e12 : v12 = _ := hphi ⟨12, .guard⟩ (by simp) rfl v12 rfl _ rfl
                subst e12
                exact .inl ⟨rfl, gives_value (v := .string out) (w' := W) (by go_simp) ⟨Below.refl _ _, fun u hu => by cases hu; rfl⟩⟩
              | 19, _, rfl =>
                have e17 : v17 = _ := hphi ⟨17, .data⟩ (by simp) rfl v17 rfl _ rfl
                have e18 : v18 = _ := hphi ⟨18, .data⟩ (by simp) rfl v18 rfl _ rfl
                have e12 : v12 = _ := hphi ⟨12, .guard⟩ (by simp) rfl v12 rfl _ rfl
                subst e12 e17 e18
                exact .inl ⟨rfl, gives_value (v := .bool false) (w' := W) (by go_simp) ⟨Below.refl _ _, fun u hu => by cases hu; rfl⟩⟩
              | 20, _, rfl =>
                have e12 : v12 = _ := hphi ⟨12, .data⟩ (by simp) rfl v12 rfl _ rfl
                have e19 : v19 = _ := hphi ⟨19, .data⟩ (by simp) rfl v19 rfl _ rfl
                have e9 : v9 = _ := hphi ⟨9, .guard⟩ (by simp) rfl v9 rfl _ rfl
                subst e9 e12 e19
                exact .inl ⟨rfl, gives_value (v := .bool false) (w' := W) (by go_simp) ⟨Below.refl _ _, fun u hu => by cases hu; rfl⟩⟩
              | 21, _, rfl =>
                have e9 : v9 = _ := hphi ⟨9, .data⟩ (by simp) rfl v9 rfl _ rfl
                have e20 : v20 = _ := hphi ⟨20, .data⟩ (by simp) rfl v20 rfl _ rfl
                subst e9 e20
                exact .inl ⟨rfl, gives_value (v := .bool false) (w' := W) (by go_simp) ⟨Below.refl _ _, fun u hu => by cases hu; rfl⟩⟩
              | 22, _, rfl =>
                have e21 : v21 = _ := hphi ⟨21, .data⟩ (by simp) rfl v21 rfl _ rfl
                subst e21
                exact .inl ⟨rfl, gives_value (v := .bool false) (w' := W) (by go_simp) ⟨Below.refl _ _, fun u hu => by cases hu; rfl⟩⟩
              | 23, _, rfl =>
                have e22 : v22 = _ := hphi ⟨22, .guard⟩ (by simp) rfl v22 rfl _ rfl
                subst e22
                exact .inr ⟨rfl, Below.refl _ _, fun u hu => by cases hu; rfl⟩
              | 24, _, rfl =>
                have e22 : v22 = _ := hphi ⟨22, .guard⟩ (by simp) rfl v22 rfl _ rfl
                subst e22
                exact .inr ⟨rfl, Below.refl _ _, fun u hu => by cases hu; rfl⟩
              | 25, _, rfl =>
                have e22 : v22 = _ := hphi ⟨22, .guard⟩ (by simp) rfl v22 rfl _ rfl
                subst e22
                exact .inr ⟨rfl, Below.refl _ _, fun u hu => by cases hu; rfl⟩
              | 26, _, rfl =>
                have e24 : v24 = _ := hphi ⟨24, .data⟩ (by simp) rfl v24 rfl _ rfl
                have e25 : v25 = _ := hphi ⟨25, .data⟩ (by simp) rfl v25 rfl _ rfl
                have e22 : v22 = _ := hphi ⟨22, .guard⟩ (by simp) rfl v22 rfl _ rfl
                subst e22 e24 e25
                exact .inr ⟨rfl, Below.refl _ _, fun u hu => by cases hu; rfl⟩
              | 27, _, rfl =>
                have e26 : v26 = _ := hphi ⟨26, .data⟩ (by simp) rfl v26 rfl _ rfl
                have e22 : v22 = _ := hphi ⟨22, .guard⟩ (by simp) rfl v22 rfl _ rfl
                subst e22 e26
                exact .inr ⟨rfl, Below.refl _ _, fun u hu => by cases hu; rfl⟩
              | 28, _, rfl =>
                have e27 : v27 = _ := hphi ⟨27, .data⟩ (by simp) rfl v27 rfl _ rfl
                have e22 : v22 = _ := hphi ⟨22, .guard⟩ (by simp) rfl v22 rfl _ rfl
                subst e22 e27
                exact .inr ⟨rfl, Below.refl _ _, fun u hu => by cases hu; rfl⟩
              | 29, _, rfl =>
                have e23 : v23 = _ := hphi ⟨23, .data⟩ (by simp) rfl v23 rfl _ rfl
                have e28 : v28 = _ := hphi ⟨28, .data⟩ (by simp) rfl v28 rfl _ rfl
                have e22 : v22 = _ := hphi ⟨22, .guard⟩ (by simp) rfl v22 rfl _ rfl
                subst e22 e23 e28
                exact .inr ⟨rfl, Below.refl _ _, fun u hu => by cases hu; rfl⟩
              | 30, _, rfl =>
                have e22 : v22 = _ := hphi ⟨22, .guard⟩ (by simp) rfl v22 rfl _ rfl
                subst e22
                exact .inr ⟨rfl, Below.refl _ _, fun u hu => by cases hu; rfl⟩
              | 31, _, rfl =>
                have e22 : v22 = _ := hphi ⟨22, .guard⟩ (by simp) rfl v22 rfl _ rfl
                subst e22
                exact .inr ⟨rfl, Below.refl _ _, fun u hu => by cases hu; rfl⟩
              | 32, _, rfl =>
                have e30 : v30 = _ := hphi ⟨30, .data⟩ (by simp) rfl v30 rfl _ rfl
                have e31 : v31 = _ := hphi ⟨31, .data⟩ (by simp) rfl v31 rfl _ rfl
                have e22 : v22 = _ := hphi ⟨22, .guard⟩ (by simp) rfl v22 rfl _ rfl
                subst e22 e30 e31
                exact .inr ⟨rfl, Below.refl _ _, fun u hu => by cases hu; rfl⟩
              | 33, _, rfl =>
                have e32 : v32 = _ := hphi ⟨32, .data⟩ (by simp) rfl v32 rfl _ rfl
                have e22 : v22 = _ := hphi ⟨22, .guard⟩ (by simp) rfl v22 rfl _ rfl
                subst e22 e32
                exact .inr ⟨rfl, Below.refl _ _, fun u hu => by cases hu; rfl⟩
              | 34, _, rfl =>
                have e33 : v33 = _ := hphi ⟨33, .data⟩ (by simp) rfl v33 rfl _ rfl
                have e22 : v22 = _ := hphi ⟨22, .guard⟩ (by simp) rfl v22 rfl _ rfl
                subst e22 e33
                exact .inr ⟨rfl, Below.refl _ _, fun u hu => by cases hu; rfl⟩
              | 35, _, rfl =>
                have e29 : v29 = _ := hphi ⟨29, .data⟩ (by simp) rfl v29 rfl _ rfl
                have e34 : v34 = _ := hphi ⟨34, .data⟩ (by simp) rfl v34 rfl _ rfl
                have e22 : v22 = _ := hphi ⟨22, .guard⟩ (by simp) rfl v22 rfl _ rfl
                subst e22 e29 e34
                exact .inr ⟨rfl, Below.refl _ _, fun u hu => by cases hu; rfl⟩
              | i + 36, hi, _ => exact absurd hi (by omega)
            case tailKEEP =>
              intro vs W hv hR hphi
              obtain ⟨v0, v1, v2, v3, v4, v5, v6, v7, v8, v9, v10, v11, v12, v13, v14, v15, v16, v17, v18, v19, v20, v21, v22, v23, v24, v25, v26, v27, v28, v29, v30, v31, v32, v33, v34, v35, rfl⟩ := list36 hv
              simp only [List.zip, List.zipWith, putAll, Act.put, List.setIfInBounds_toArray, List.set, List.drop]
              have e22 : v22 = _ := hphi 22 v22 rfl _ rfl
              have e35 : v35 = _ := hphi 35 v35 rfl _ rfl
              subst e22 e35
              have HBW : Hid (Below w.heap.size w W) := hBel.out.trans (hR.mono hBel.out.size)
              have HBR := Lib.hid hR
              clear hphi hR
              go_wp2
              go_roundw
              case rel => exact ⟨k + 1, out, true, by omega, by go_num, rfl, rfl, HK2.out, HBW.out⟩
              case measure => simp [intOf]; omega
      · obtain ⟨pj, hpj2⟩ : ∃ pj : Int, (j : Int) = pj := ⟨_, rfl⟩
        rw [hpj2] at hpj
        have hne : (pj == (k : Int)) = false := by rw [beq_eq_false_iff_ne]; omega
        have HPO := Lib.hid hpj
        have HK2 : Hid (LstK ts (k + 1) is out) := hK.out.pass HT.out (fun hr => by
          have := hK.out.2 j x (by omega) HPX.out.1 (by rw [HPX.out.2]; exact hr)
          rwa [HPX.out.2] at this)
        clear hpj hpj2
        go_wp2_with fail
        refine wp_region_stableGD 36 (13 :: 14 :: 15 :: 16 :: 17 :: 18 :: 19 :: 20 :: 21 :: 22 :: 23 :: 24 :: 25 :: 26 :: 27 :: 28 :: 29 :: 30 :: 31 :: 32 :: 33 :: 34 :: 35 :: 36 :: 37 :: 38 :: 39 :: 40 :: 41 :: 42 :: 43 :: 44 :: 45 :: 46 :: 47 :: 48 :: []) (by kernel_rfl) (by kernel_rfl) (by kernel_rfl) (fun W => Below wr.heap.size wr W) (fun W W' => Below W.heap.size W W')
          (lstPhi false ((.slice (some ⟨b, off, none⟩) n c) :: (.slice (some ⟨b, off, none⟩) n c) :: (.int .i64 (k : Int)) :: (.pointer (some ⟨b, off + k * 4, none⟩)) :: (.pointer (some ⟨b, off + k * 4, none⟩)) :: (.string lab) :: (.int .i64 pj) :: (.int .i64 (k : Int)) :: (.bool false) :: (.bool false) :: (undef) :: (undef) :: (undef) :: (undef) :: (undef) :: (undef) :: (undef) :: (undef) :: (undef) :: (undef) :: (undef) :: (.bool false) :: (.bool false) :: (undef) :: (undef) :: (undef) :: (undef) :: (undef) :: (undef) :: (undef) :: (undef) :: (undef) :: (undef) :: (undef) :: (undef) :: (undef) :: []) ts lab) (fun W W' h1 h2 => h1.trans (h2.mono h1.size)) (fun i v W W' h hb => lstPhi_keep i v W W' h hb) (Below.refl _ _).drew ?stepNOT ?tailNOT
        case stepNOT =>
          intro i o vs W hi ho hv hR hphi
          obtain ⟨v0, v1, v2, v3, v4, v5, v6, v7, v8, v9, v10, v11, v12, v13, v14, v15, v16, v17, v18, v19, v20, v21, v22, v23, v24, v25, v26, v27, v28, v29, v30, v31, v32, v33, v34, v35, rfl⟩ := list36 hv
          simp only [List.zip, List.zipWith, putAll, Act.put, List.setIfInBounds_toArray, List.set]
          have l0 := (hR.cell (p := ⟨b, off + k * 4, none⟩) (by show b < _; omega)).trans HY0.out
          have hWz := hR.size
          match i, hi, ho with
          | 0, _, rfl =>
            exact .inl ⟨rfl, gives_value (v := .slice (some ⟨b, off, none⟩) n c) (w' := W) (by go_simp) ⟨Below.refl _ _, fun u hu => by cases hu; rfl⟩⟩
          | 1, _, rfl =>
            exact .inl ⟨rfl, gives_value (v := .slice (some ⟨b, off, none⟩) n c) (w' := W) (by go_simp) ⟨Below.refl _ _, fun u hu => by cases hu; rfl⟩⟩
          | 2, _, rfl =>
            exact .inl ⟨rfl, gives_value (v := .int .i64 (k : Int)) (w' := W) (by go_simp) ⟨Below.refl _ _, fun u hu => by cases hu; rfl⟩⟩
          | 3, _, rfl =>
            have e1 : v1 = _ := hphi ⟨1, .data⟩ (by simp) rfl v1 rfl _ rfl
            have e2 : v2 = _ := hphi ⟨2, .data⟩ (by simp) rfl v2 rfl _ rfl
            subst e1 e2
            exact .inl ⟨rfl, gives_value (v := .pointer (some ⟨b, off + k * 4, none⟩)) (w' := W) (by go_simp) ⟨Below.refl _ _, fun u hu => by cases hu; rfl⟩⟩
          | 4, _, rfl =>
            have e3 : v3 = _ := hphi ⟨3, .data⟩ (by simp) rfl v3 rfl _ rfl
            subst e3
            exact .inl ⟨rfl, gives_value (v := .pointer (some ⟨b, off + k * 4, none⟩)) (w' := W) (by go_simp) ⟨Below.refl _ _, fun u hu => by cases hu; rfl⟩⟩
          | 5, _, rfl =>
            have e4 : v4 = _ := hphi ⟨4, .data⟩ (by simp) rfl v4 rfl _ rfl
            subst e4
            exact .inl ⟨rfl, gives_value (v := .string lab) (w' := W) (by go_simp) ⟨Below.refl _ _, fun u hu => by cases hu; rfl⟩⟩
          | 6, _, rfl =>
            have e0 : v0 = _ := hphi ⟨0, .data⟩ (by simp) rfl v0 rfl _ rfl
            have e5 : v5 = _ := hphi ⟨5, .data⟩ (by simp) rfl v5 rfl _ rfl
            subst e0 e5
            refine .inl ⟨rfl, gives_call (f := 68) (args := #[.slice (some ⟨b, off, none⟩) n c, .string lab]) (by go_simp) ((rfind_any (some ⟨b, off, none⟩) n c B ts lab W ((H0.out.below hBel.out hB).below hR (by omega)) (by omega)).mono ?_)⟩
            rintro e W' ⟨rfl, rfl⟩
            exact ⟨_, rfl, Below.refl _ _, fun u hu => by cases hu; rw [HPO.out]⟩
          | 7, _, rfl =>
            exact .inl ⟨rfl, gives_value (v := .int .i64 (k : Int)) (w' := W) (by go_simp) ⟨Below.refl _ _, fun u hu => by cases hu; rfl⟩⟩
          | 8, _, rfl =>
            have e6 : v6 = _ := hphi ⟨6, .data⟩ (by simp) rfl v6 rfl _ rfl
            have e7 : v7 = _ := hphi ⟨7, .data⟩ (by simp) rfl v7 rfl _ rfl
            subst e6 e7
            exact .inl ⟨rfl, gives_value (v := .bool false) (w' := W) (by go_simp) ⟨Below.refl _ _, fun u hu => by cases hu; rfl⟩⟩
          | 9, _, rfl =>
            have e8 : v8 = _ := hphi ⟨8, .data⟩ (by simp) rfl v8 rfl _ rfl
            subst e8
            exact .inl ⟨rfl, gives_value (v := .bool false) (w' := W) (by go_simp) ⟨Below.refl _ _, fun u hu => by cases hu; rfl⟩⟩
          | 10, _, rfl =>
            have e9 : v9 = _ := hphi ⟨9, .guard⟩ (by simp) rfl v9 rfl _ rfl
            subst e9
            exact .inr ⟨rfl, Below.refl _ _, fun u hu => by cases hu; rfl⟩
          | 11, _, rfl =>
            have e10 : v10 = _ := hphi ⟨10, .data⟩ (by simp) rfl v10 rfl _ rfl
            have e9 : v9 = _ := hphi ⟨9, .guard⟩ (by simp) rfl v9 rfl _ rfl
            subst e9 e10
            exact .inr ⟨rfl, Below.refl _ _, fun u hu => by cases hu; rfl⟩
          | 12, _, rfl =>
            have e11 : v11 = _ := hphi ⟨11, .data⟩ (by simp) rfl v11 rfl _ rfl
            have e9 : v9 = _ := hphi ⟨9, .guard⟩ (by simp) rfl v9 rfl _ rfl
            subst e9 e11
            exact .inr ⟨rfl, Below.refl _ _, fun u hu => by cases hu; rfl⟩
          | 13, _, rfl =>
            have e12 : v12 = _ := hphi ⟨12, .guard⟩ (by simp) rfl v12 rfl _ rfl
            subst e12
            exact .inr ⟨rfl, Below.refl _ _, fun u hu => by cases hu; rfl⟩
          | 14, _, rfl =>
            have e12 : v12 = _ := hphi ⟨12, .guard⟩ (by simp) rfl v12 rfl _ rfl
            subst e12
            exact .inr ⟨rfl, Below.refl _ _, fun u hu => by cases hu; rfl⟩
          | 15, _, rfl =>
            have e13 : v13 = _ := hphi ⟨13, .data⟩ (by simp) rfl v13 rfl _ rfl
            have e14 : v14 = _ := hphi ⟨14, .data⟩ (by simp) rfl v14 rfl _ rfl
            have e12 : v12 = _ := hphi ⟨12, .guard⟩ (by simp) rfl v12 rfl _ rfl
            subst e12 e13 e14
            exact .inr ⟨rfl, Below.refl _ _, fun u hu => by cases hu; rfl⟩
          | 16, _, rfl =>
            have e15 : v15 = _ := hphi ⟨15, .data⟩ (by simp) rfl v15 rfl _ rfl
            have e12 : v12 = _ := hphi ⟨12, .guard⟩ (by simp) rfl v12 rfl _ rfl
            subst e12 e15
            exact .inr ⟨rfl, Below.refl _ _, fun u hu => by cases hu; rfl⟩
          | 17, _, rfl =>
            have e16 : v16 = _ := hphi ⟨16, .data⟩ (by simp) rfl v16 rfl _ rfl
            have e12 : v12 = _ := hphi ⟨12, .guard⟩ (by simp) rfl v12 rfl _ rfl
            subst e12 e16
            exact .inr ⟨rfl, Below.refl _ _, fun u hu => by cases hu; rfl⟩
          | 18, _, rfl =>
            have e12 : v12 = _ := hphi ⟨12, .guard⟩ (by simp) rfl v12 rfl _ rfl
            subst e12
            exact .inr ⟨rfl, Below.refl _ _, fun u hu => by cases hu; rfl⟩
          | 19, _, rfl =>
            have e17 : v17 = _ := hphi ⟨17, .data⟩ (by simp) rfl v17 rfl _ rfl
            have e18 : v18 = _ := hphi ⟨18, .data⟩ (by simp) rfl v18 rfl _ rfl
            have e12 : v12 = _ := hphi ⟨12, .guard⟩ (by simp) rfl v12 rfl _ rfl
            subst e12 e17 e18
            exact .inr ⟨rfl, Below.refl _ _, fun u hu => by cases hu; rfl⟩
          | 20, _, rfl =>
            have e12 : v12 = _ := hphi ⟨12, .data⟩ (by simp) rfl v12 rfl _ rfl
            have e19 : v19 = _ := hphi ⟨19, .data⟩ (by simp) rfl v19 rfl _ rfl
            have e9 : v9 = _ := hphi ⟨9, .guard⟩ (by simp) rfl v9 rfl _ rfl
            subst e9 e12 e19
            exact .inr ⟨rfl, Below.refl _ _, fun u hu => by cases hu; rfl⟩
          | 21, _, rfl =>
            have e9 : v9 = _ := hphi ⟨9, .data⟩ (by simp) rfl v9 rfl _ rfl
            have e20 : v20 = _ := hphi ⟨20, .data⟩ (by simp) rfl v20 rfl _ rfl
            subst e9 e20
            exact .inl ⟨rfl, gives_value (v := .bool false) (w' := W) (by go_simp) ⟨Below.refl _ _, fun u hu => by cases hu; rfl⟩⟩
          | 22, _, rfl =>
            have e21 : v21 = _ := hphi ⟨21, .data⟩ (by simp) rfl v21 rfl _ rfl
            subst e21
            exact .inl ⟨rfl, gives_value (v := .bool false) (w' := W) (by go_simp) ⟨Below.refl _ _, fun u hu => by cases hu; rfl⟩⟩
          | 23, _, rfl =>
            have e22 : v22 = _ := hphi ⟨22, .guard⟩ (by simp) rfl v22 rfl _ rfl
            subst e22
            exact .inr ⟨rfl, Below.refl _ _, fun u hu => by cases hu; rfl⟩
          | 24, _, rfl =>
            have e22 : v22 = _ := hphi ⟨22, .guard⟩ (by simp) rfl v22 rfl _ rfl
            subst e22
            exact .inr ⟨rfl, Below.refl _ _, fun u hu => by cases hu; rfl⟩
          | 25, _, rfl =>
            have e22 : v22 = _ := hphi ⟨22, .guard⟩ (by simp) rfl v22 rfl _ rfl
            subst e22
            exact .inr ⟨rfl, Below.refl _ _, fun u hu => by cases hu; rfl⟩
          | 26, _, rfl =>
            have e24 : v24 = _ := hphi ⟨24, .data⟩ (by simp) rfl v24 rfl _ rfl
            have e25 : v25 = _ := hphi ⟨25, .data⟩ (by simp) rfl v25 rfl _ rfl
            have e22 : v22 = _ := hphi ⟨22, .guard⟩ (by simp) rfl v22 rfl _ rfl
            subst e22 e24 e25
            exact .inr ⟨rfl, Below.refl _ _, fun u hu => by cases hu; rfl⟩
          | 27, _, rfl =>
            have e26 : v26 = _ := hphi ⟨26, .data⟩ (by simp) rfl v26 rfl _ rfl
            have e22 : v22 = _ := hphi ⟨22, .guard⟩ (by simp) rfl v22 rfl _ rfl
            subst e22 e26
            exact .inr ⟨rfl, Below.refl _ _, fun u hu => by cases hu; rfl⟩
          | 28, _, rfl =>
            have e27 : v27 = _ := hphi ⟨27, .data⟩ (by simp) rfl v27 rfl _ rfl
            have e22 : v22 = _ := hphi ⟨22, .guard⟩ (by simp) rfl v22 rfl _ rfl
            subst e22 e27
            exact .inr ⟨rfl, Below.refl _ _, fun u hu => by cases hu; rfl⟩
          | 29, _, rfl =>
            have e23 : v23 = _ := hphi ⟨23, .data⟩ (by simp) rfl v23 rfl _ rfl
            have e28 : v28 = _ := hphi ⟨28, .data⟩ (by simp) rfl v28 rfl _ rfl
            have e22 : v22 = _ := hphi ⟨22, .guard⟩ (by simp) rfl v22 rfl _ rfl
            subst e22 e23 e28
            exact .inr ⟨rfl, Below.refl _ _, fun u hu => by cases hu; rfl⟩
          | 30, _, rfl =>
            have e22 : v22 = _ := hphi ⟨22, .guard⟩ (by simp) rfl v22 rfl _ rfl
            subst e22
            exact .inr ⟨rfl, Below.refl _ _, fun u hu => by cases hu; rfl⟩
          | 31, _, rfl =>
            have e22 : v22 = _ := hphi ⟨22, .guard⟩ (by simp) rfl v22 rfl _ rfl
            subst e22
            exact .inr ⟨rfl, Below.refl _ _, fun u hu => by cases hu; rfl⟩
          | 32, _, rfl =>
            have e30 : v30 = _ := hphi ⟨30, .data⟩ (by simp) rfl v30 rfl _ rfl
            have e31 : v31 = _ := hphi ⟨31, .data⟩ (by simp) rfl v31 rfl _ rfl
            have e22 : v22 = _ := hphi ⟨22, .guard⟩ (by simp) rfl v22 rfl _ rfl
            subst e22 e30 e31
            exact .inr ⟨rfl, Below.refl _ _, fun u hu => by cases hu; rfl⟩
          | 33, _, rfl =>
            have e32 : v32 = _ := hphi ⟨32, .data⟩ (by simp) rfl v32 rfl _ rfl
            have e22 : v22 = _ := hphi ⟨22, .guard⟩ (by simp) rfl v22 rfl _ rfl
            subst e22 e32
            exact .inr ⟨rfl, Below.refl _ _, fun u hu => by cases hu; rfl⟩
          | 34, _, rfl =>
            have e33 : v33 = _ := hphi ⟨33, .data⟩ (by simp) rfl v33 rfl _ rfl
            have e22 : v22 = _ := hphi ⟨22, .guard⟩ (by simp) rfl v22 rfl _ rfl
            subst e22 e33
            exact .inr ⟨rfl, Below.refl _ _, fun u hu => by cases hu; rfl⟩
          | 35, _, rfl =>
            have e29 : v29 = _ := hphi ⟨29, .data⟩ (by simp) rfl v29 rfl _ rfl
            have e34 : v34 = _ := hphi ⟨34, .data⟩ (by simp) rfl v34 rfl _ rfl
            have e22 : v22 = _ := hphi ⟨22, .guard⟩ (by simp) rfl v22 rfl _ rfl
            subst e22 e29 e34
            exact .inr ⟨rfl, Below.refl _ _, fun u hu => by cases hu; rfl⟩
          | i + 36, hi, _ => exact absurd hi (by omega)
        case tailNOT =>
          intro vs W hv hR hphi
          obtain ⟨v0, v1, v2, v3, v4, v5, v6, v7, v8, v9, v10, v11, v12, v13, v14, v15, v16, v17, v18, v19, v20, v21, v22, v23, v24, v25, v26, v27, v28, v29, v30, v31, v32, v33, v34, v35, rfl⟩ := list36 hv
          simp only [List.zip, List.zipWith, putAll, Act.put, List.setIfInBounds_toArray, List.set, List.drop]
          have e22 : v22 = _ := hphi 22 v22 rfl _ rfl
          have e35 : v35 = _ := hphi 35 v35 rfl _ rfl
          subst e22 e35
          have HBW : Hid (Below w.heap.size w W) := hBel.out.trans (hR.mono hBel.out.size)
          have HBR := Lib.hid hR
          clear hphi hR
          go_wp2
          go_roundw
          case rel => exact ⟨k + 1, out, is, by omega, by go_num, rfl, rfl, HK2.out, HBW.out⟩
          case measure => simp [intOf]; omega
    · have hlz : ¬ (k : Int) < (n : Int) := by omega
      have HE := Lib.hid (hK.out.end_ (by rw [HL.out]; omega))
      go_wp2
      go_ret2
      exact ⟨out, is, rfl, HE.out, hBel.out⟩
end Go.Proofs.YtddlohbhchjjhaaGreatDoor

namespace Go.Proofs.YtddlohbhchjjhaaGreatDoor
open Go.RowKit Go.Maps

inductive CycQ (nx : ByteArray → List ByteArray) (s : ByteArray) : List ByteArray → ByteArray → Nat → Prop
  | one {K : Nat} : Dst nx K s s → CycQ nx s [s] s K
  | more {c : List ByteArray} {x y : ByteArray} {q : Nat} : CycQ nx s c x (q + 1) → y ∈ nx x → Dst nx q y s → (∀ d ∈ nx x, Dst nx q d s → less d y = false) → CycQ nx s (c ++ [y]) y q
def RcyR (ts : List Tg) (l : List ByteArray) : Prop :=
  (l = [] ∧ ∀ s, ¬ Rch (nxT ts) s s) ∨ ∃ s x, isT ts s = true ∧ Rch (nxT ts) s s ∧ (∀ y, less y s = true → ¬ Rch (nxT ts) y y) ∧ CycQ (nxT ts) s l x 0
def RcyEnd (ts : List Tg) (w : World) (e : Ending) (w' : World) : Prop := ∃ A' m c' l, e = .returned (.slice A' m c') ∧ Sl w' w'.heap.size 1 A' m (strs l) ∧ m ≤ c' ∧ c' ≤ maxLen ∧ RcyR ts l ∧ Below w.heap.size w w'
def NxF (ts : List Tg) (first : ByteArray) (q : Nat) (ds : List ByteArray) (found : Bool) (nx : ByteArray) : Prop :=
  (found = true → nx ∈ ds ∧ isT ts nx = true ∧ Dst (nxT ts) q nx first) ∧ ∀ d ∈ ds, isT ts d = true → Dst (nxT ts) q d first → found = true ∧ less d nx = false
theorem NxF.start (ts : List Tg) (first : ByteArray) (q : Nat) : NxF ts first q [] false ⟨#[]⟩ := ⟨(fun h => by cases h), fun d h => by cases h⟩
theorem NxF.pass {ts : List Tg} {first d nx : ByteArray} {q : Nat} {ds : List ByteArray} {found : Bool} (h : NxF ts first q ds found nx) (hn : (found = true ∧ less d nx = false) ∨ isT ts d = false ∨ ¬ Dst (nxT ts) q d first) : NxF ts first q (ds ++ [d]) found nx :=
  ⟨fun e => ⟨List.mem_append_left _ (h.1 e).1, (h.1 e).2⟩, fun x hx h1 h2 => by
    rcases List.mem_append.1 hx with h' | h'
    · exact h.2 x h' h1 h2
    · rw [List.mem_singleton.1 h'] at h1 h2 ⊢
      rcases hn with hn | hn | hn
      · exact hn
      · rw [hn] at h1; cases h1
      · exact absurd h2 hn⟩
theorem NxF.got {ts : List Tg} {first d nx : ByteArray} {q : Nat} {ds : List ByteArray} {found : Bool} (h : NxF ts first q ds found nx) (ht : isT ts d = true) (hd : Dst (nxT ts) q d first) (hb : found = false ∨ less d nx = true) : NxF ts first q (ds ++ [d]) true d := by
  refine ⟨fun _ => ⟨by simp, ht, hd⟩, fun e he h1 h2 => ⟨rfl, ?_⟩⟩
  rcases List.mem_append.1 he with he | he
  · obtain ⟨a1, a2⟩ := h.2 e he h1 h2
    rcases hb with hb | hb
    · rw [hb] at a1; cases a1
    · cases h6 : less e d with
      | false => rfl
      | true => rw [lessB_trans h6 hb] at a2; cases a2
  · rw [List.mem_singleton.1 he]; exact lessB_irrefl _
theorem stpR_eq {ts : List Tg} {a b : ByteArray} {r : Int} {q : Nat} (h : StpR ts a b r) : r = (q : Int) + 1 ↔ Dst (nxT ts) q a b := by
  rcases h with ⟨rfl, h⟩ | ⟨k, rfl, h⟩
  · constructor
    · intro e; omega
    · intro e; exact absurd ⟨q, e.1⟩ h
  · constructor
    · intro e; obtain rfl : k = q := by omega
      exact h
    · intro e; rw [h.uniq e]
theorem stpR_ex (ts : List Tg) (a b : ByteArray) : ∃ r, StpR ts a b r := by
  by_cases h : Rch (nxT ts) a b
  · obtain ⟨k, hk⟩ := Dst.of_rch h
    exact ⟨_, .inr ⟨k, rfl, hk⟩⟩
  · exact ⟨_, .inl ⟨rfl, h⟩⟩
theorem StpR.uniq {ts : List Tg} {a b : ByteArray} {r s : Int} (h : StpR ts a b r) (g : StpR ts a b s) : r = s := by
  rcases h with ⟨rfl, h⟩ | ⟨k, rfl, h⟩
  · rcases g with ⟨rfl, _⟩ | ⟨j, _, g⟩
    · rfl
    · exact absurd ⟨j, g.1⟩ h
  · rcases g with ⟨_, g⟩ | ⟨j, rfl, g⟩
    · exact absurd ⟨k, h.1⟩ g
    · rw [h.uniq g]
theorem halt_app {P : Program} {ops : Array Oper} {rest : List Oper} {o : Oper} {a : Act} {w : World} {Q : Exit → Act → World → Prop} (s x : Operand) (t : TypeId) (_ : o.op = .call { callee := .builtin .append, args := #[s, x], argTypes := #[t, t] })
    (h : Hid (wpList P ops Q (o :: rest) a w)) : wpList P ops Q (o :: rest) a w := h
set_option maxRecDepth 100000 in
set_option maxHeartbeats 16000000 in
theorem rcycle_any (A : Option Addr) (n c B : Nat) (ts : List Tg) (w : World) (h0 : Sl w B 4 A n (flat tgC ts)) (hok : ∀ t ∈ ts, TgOk w B t) (hB : B ≤ w.heap.size) (hn : n ≤ 1000) :
    Calls Tryz.prog 21 #[.slice A n c] w (RcyEnd ts w) := by
  have HL := Lib.hid (h0.len tgC_len (by omega))
  have H0 := Lib.hid h0; have HOK := Lib.hid hok
  clear h0 hok
  obtain ⟨i0, hi, hz0, hz1, hz2⟩ := info_parts infoStr
  have Hi := Lib.hid hi; have Hz0 := Lib.hid hz0; have Hz1 := Lib.hid hz1; have Hz2 := Lib.hid hz2
  clear hi hz0 hz1 hz2
  have HLE := Lib.hid (rleast_any A n c B ts w H0.out HOK.out hB hn)
  go_enter Tryz.func21, Tryz.ntmps21
  go_wp2_with (go_at_call 66; refine HLE.out.mono ?_; rintro e w1 ⟨first, is, rfl, hlr, hb1⟩; refine halt_ ?_)
  refine unhalt ?_
  have HLR := Lib.hid hlr; have HB1 := Lib.hid hb1
  have hz1 := hb1.size
  clear hlr hb1 HLE
  cases is with
  | false =>
    have HN : Hid (∀ s, ¬ Rch (nxT ts) s s) := fun s hs => by have := (HLR.out.2 s hs).1; cases this
    go_wp2
    go_ret
    exact ⟨_, 0, 0, [], rfl, Sl.nil _ _ _ _, Nat.le_refl _, Nat.zero_le _, .inl ⟨rfl, HN.out⟩, HB1.out.alloc hz1 _⟩
  | true =>
    have HFF := Lib.hid (HLR.out.1 rfl)
    have HFT : Hid (isT ts first = true) := rch_isT HFF.out
    have HLO : Hid (∀ y, less y first = true → ¬ Rch (nxT ts) y y) := fun y hy hr => by
      have := (HLR.out.2 y hr).2; rw [hy] at this; cases this
    obtain ⟨W1, hW1⟩ : ∃ W1, w1.alloc (.cells #[.string first] 9) = W1 := ⟨_, rfl⟩
    have HB2 : Hid (Below w.heap.size w W1) := by rw [← hW1]; exact HB1.out.alloc hz1 _
    have HO1 : Hid (W1.ownsRow w.heap.size 9 1 (.slice (some ⟨w1.heap.size, 0, none⟩) 1 1) 1 (strs [first])) := by
      rw [← hW1]
      exact ⟨rfl, .inr ⟨w1.heap.size, 1, #[.string first], rfl, hz1, World.alloc_heap_new w1 _, Nat.le_refl _, by unfold maxLen; omega, rfl, rfl⟩⟩
    have HST := Lib.hid (rsteps_any A n c B ts first first W1 (H0.out.below HB2.out hB) (fun t ht => (HOK.out t ht).below HB2.out hB) (Nat.le_trans hB HB2.out.size) hn)
    clear HLR HB1
    go_wp2_with (go_at_call 67; refine HST.out.mono ?_; rintro e w2 ⟨r, rfl, hsr, hrb, hb2⟩; refine halt_ ?_)
    refine unhalt ?_
    obtain ⟨K, hK, hD⟩ : ∃ K : Nat, r = (K : Int) + 1 ∧ Dst (nxT ts) K first first := by
      rcases hsr with ⟨_, h⟩ | h
      · exact absurd HFF.out h
      · exact h
    subst hK
    have hKn : K ≤ 2 * n + 2 := by omega
    have HD := Lib.hid hD
    have HO2 : Hid (w2.ownsRow w.heap.size 9 1 (.slice (some ⟨w1.heap.size, 0, none⟩) 1 1) 1 (strs [first])) := own_keep HO1.out (fun k hk => hb2.block k (HO1.out.lt k hk).2)
    have HB3 : Hid (Below w.heap.size w w2) := HB2.out.trans (hb2.mono HB2.out.size)
    clear hsr hD hb2 HST HO1 HB2 hW1 hrb
    go_wp2
    go_loopw [5, 6, 7] (fun q5 q6 q7 wr => ∃ (q : Nat) (at_ : ByteArray) (A5 : Option Addr) (c5 : Nat) (l : List ByteArray) (m5 : Nat), q7 = .int .i64 ((q : Int) + 1) ∧ q6 = .string at_ ∧ q5 = .slice A5 m5 c5 ∧ Hid (m5 = l.length) ∧ m5 ≤ c5 ∧ c5 ≤ maxLen ∧ Hid (wr.ownsRow w.heap.size 9 1 (.slice A5 m5 c5) m5 (strs l)) ∧ Hid (CycQ (nxT ts) first l at_ q) ∧ Hid (Dst (nxT ts) q at_ first) ∧ m5 + q ≤ K + 1 ∧ Hid (Below w.heap.size w wr)) (fun _ _ q7 _ => (intOf q7).toNat)
    case atStart => exact ⟨K, first, _, 1, [first], 1, rfl, rfl, rfl, rfl, Nat.le_refl _, by unfold maxLen; omega, HO2.out, .one HD.out, HD.out, by omega, HB3.out⟩
    case round =>
      obtain ⟨q, at_, A5, c5, l, m5, rfl, rfl, rfl, hm5, hmc, hcm, hO, hCQ, hDq, hlq, hBel⟩ := hrel
      obtain ⟨wo, hwo⟩ : ∃ wo, wo = wr := ⟨_, rfl⟩
      subst hwo
      have hwr := hBel.out.size
      cases q with
      | zero =>
        have HR : Hid (RcyR ts l) := .inr ⟨first, at_, HFT.out, HFF.out, HLO.out, hCQ.out⟩
        go_wp2
        go_ret
        exact ⟨A5, m5, c5, l, rfl, Sl.of_own hO.out, hmc, hcm, HR.out, hBel.out⟩
      | succ q =>
        obtain ⟨cx, hcx, hcd⟩ := hDq.out.next
        have hta := (nxT_mem hcx).2
        obtain ⟨t, hft⟩ : ∃ t, findT ts at_ = some t := Option.isSome_iff_exists.1 hta
        have HNX : Hid (nxT ts at_ = t.deps.filter (isT ts)) := nxT_some hft
        have hcs : cx ∈ t.deps ∧ isT ts cx = true := by rw [HNX.out] at hcx; exact List.mem_filter.1 hcx
        have HCX : Hid (∃ d ∈ t.deps, isT ts d = true ∧ Dst (nxT ts) q d first) := ⟨cx, hcs.1, hcs.2, hcd⟩
        obtain ⟨ki, hki, hti⟩ := posI_some hft
        have hkn : ki < n := by have := (List.getElem?_eq_some_iff.1 hti).1; rw [HL.out] at this; exact this
        have HTO := Lib.hid (HOK.out t (List.mem_of_getElem? hti))
        have hdl : t.deps.length = t.dn := HTO.out.dlen
        have hdnm : t.dn ≤ 9223372036854775807 := by have h1 := HTO.out.dle; have h2 := HTO.out.dmax; unfold maxLen at h2; omega
        obtain ⟨b, off, t', rfl, hbB, ht', y0, y1, y2, y3⟩ := (H0.out.below hBel.out hB).tg hkn
        rw [hti] at ht'
        cases ht'
        have hkz : (ki : Int) < (n : Int) := by omega
        have HFD := Lib.hid (rfind_any (some ⟨b, off, none⟩) n c B ts at_ wo (H0.out.below hBel.out hB) (by omega))
        rw [hki] at HFD
        have hgt : (1 : Int) < ((q + 1 : Nat) : Int) + 1 := by omega
        clear hcx hta hft hcs hcd hki hti
        obtain ⟨tl, kind, dA, dn, dc, deps, vA, vn, vc, vis⟩ := t
        simp only at y0 y1 y2 y3 hdl hdnm HCX HNX
        have HDS : Hid (Sl wo B 1 dA dn (strs deps)) := HTO.out.d.below hBel.out hB
        have HDL := Lib.hid hdl
        obtain ⟨W0, hW0⟩ : ∃ W0, wo.alloc (.cells #[.string tl, .int .i64 kind, .slice dA dn dc, .slice vA vn vc] 35) = W0 := ⟨_, rfl⟩
        have HKT : Hid (Bk W0 wo.heap.size 35 #[.string tl, .int .i64 kind, .slice dA dn dc, .slice vA vn vc]) := by rw [← hW0]; exact Bk.new wo _ _
        have HBW0 : Hid (Below wo.heap.size wo W0) := by rw [← hW0]; exact (Below.refl _ wo).alloc (Nat.le_refl _) _
        have zW0 : W0.heap.size = wo.heap.size + 1 := by rw [← hW0]; simp
        clear hdl
        go_wp2_with (go_at_call 68; refine HFD.out.mono ?_; rintro e w3 ⟨rfl, rfl⟩)
        clear y0 y1 y2 y3 hW0
        go_loopw [8, 9, 11] (fun q8 q9 q11 wi => ∃ (k : Nat) (nx : ByteArray) (f : Bool), k ≤ dn ∧ q11 = .int .i64 k ∧ q8 = .string nx ∧ q9 = .bool f ∧ Hid (NxF ts first q (deps.take k) f nx) ∧ Hid (Below W0.heap.size W0 wi)) (fun _ _ q11 _ => dn - (intOf q11).toNat)
        case atStart => exact ⟨0, ⟨#[]⟩, false, Nat.zero_le _, rfl, rfl, rfl, NxF.start ts first q, Below.refl _ _⟩
        case round =>
          obtain ⟨k, nx, f, hk, rfl, rfl, rfl, hN, hBi⟩ := hrel
          have hwi := hBi.out.size
          have HBw : Hid (Below w.heap.size w wr) := hBel.out.trans ((HBW0.out.trans (hBi.out.mono (by omega))).mono hwr)
          have HKi : Hid (Bk wr wo.heap.size 35 #[.string tl, .int .i64 kind, .slice dA dn dc, .slice vA vn vc]) := HKT.out.below hBi.out (by omega)
          have z2 := HKi.out.cell 2
          simp at z2
          have HZ2 := Lib.hid z2
          by_cases hlt : k < dn
          · obtain ⟨db, doff, d, rfl, hdb, hd, y0⟩ := ((HDS.out.below HBW0.out (by omega)).below hBi.out (by omega)).str_at hlt
            have hlz : (k : Int) < (dn : Int) := by omega
            have HY0 := Lib.hid y0
            have HTK := Lib.hid (take_snoc hd)
            clear y0 hd
            have HFX := Lib.hid (rfind_any (some ⟨b, off, none⟩) n c B ts d wr (H0.out.below HBw.out hB) (by omega))
            have l0 := HZ2.out; have l1 := HY0.out
            cases hit : isT ts d with
            | false =>
              have HPO : Hid (posI ts d = -1) := by
                have := posI_isT ts d; rw [hit] at this
                have h2 : ¬ (0 ≤ posI ts d) := of_decide_eq_false this.symm
                exact posI_neg ts d (by omega)
              have HN2 : Hid (NxF ts first q (deps.take (k + 1)) f nx) := by
                show NxF _ _ _ _ _ _
                rw [HTK.out]; exact hN.out.pass (.inr (.inl hit))
              rw [HPO.out] at HFX
              clear hit
              have HBI := Lib.hid hBi.out
              go_wp2_with (go_at_call 68; refine HFX.out.mono ?_; rintro e wf ⟨rfl, rfl⟩)
              go_roundw
              case rel => exact ⟨k + 1, nx, f, by omega, by go_num, rfl, rfl, HN2.out, HBI.out⟩
              case measure => simp [intOf]; omega
            | true =>
              obtain ⟨pk, hpk⟩ : ∃ pk : Nat, posI ts d = pk := by
                have := posI_isT ts d; rw [hit] at this
                have h2 : 0 ≤ posI ts d := of_decide_eq_true this.symm
                exact ⟨(posI ts d).toNat, by omega⟩
              have HPO := Lib.hid hpk
              have HIT := Lib.hid hit
              rw [hpk] at HFX
              obtain ⟨r0, hr0⟩ := stpR_ex ts d first
              have HSX : Hid (Calls Tryz.prog 67 #[.slice (some ⟨b, off, none⟩) n c, .string d, .string first] wr fun e w' => e = .returned (.int .i64 r0) ∧ Below wr.heap.size wr w') :=
                (rsteps_any (some ⟨b, off, none⟩) n c B ts d first wr (H0.out.below HBw.out hB) (fun t ht => (HOK.out t ht).below HBw.out hB) (Nat.le_trans hB HBw.out.size) hn).mono (by
                  rintro e w' ⟨r9, rfl, hs1, hs2, hs3⟩
                  exact ⟨ret_int (hs1.uniq hr0), hs3⟩)
              have HR0 := Lib.hid hr0
              clear hit hpk hr0
              by_cases hrq : r0 = (q : Int) + 1
              · have HDD := Lib.hid ((stpR_eq HR0.out).1 hrq)
                cases f with
                | false =>
                  have HN2 : Hid (NxF ts first q (deps.take (k + 1)) true d) := by
                    show NxF _ _ _ _ _ _
                    rw [HTK.out]; exact hN.out.got HIT.out HDD.out (.inl rfl)
                  subst hrq
                  go_wp2_with (first
                    | (go_at_call 68; refine HFX.out.mono ?_; rintro e wf ⟨rfl, rfl⟩)
                    | (go_at_call 67; refine HSX.out.mono ?_; rintro e w4 ⟨rfl, hb4⟩; refine halt_ ?_))
                  refine unhalt ?_
                  have HBI : Hid (Below W0.heap.size W0 w4) := hBi.out.trans (hb4.mono hwi)
                  have l0 := (hb4.cell (p := ⟨wo.heap.size, 2, none⟩) (by show wo.heap.size < _; omega)).trans HZ2.out
                  have l1 := (hb4.cell (p := ⟨db, doff + k, none⟩) (by show db < _; omega)).trans HY0.out
                  clear hb4
                  go_wp2
                  go_roundw
                  case rel => exact ⟨k + 1, d, true, by omega, by go_num, rfl, rfl, HN2.out, HBI.out⟩
                  case measure => simp [intOf]; omega
                | true =>
                  have t1 := less_str d nx
                  cases hl : less d nx with
                  | true =>
                    have HN2 : Hid (NxF ts first q (deps.take (k + 1)) true d) := by
                      show NxF _ _ _ _ _ _
                      rw [HTK.out]; exact hN.out.got HIT.out HDD.out (.inr hl)
                    rw [hl] at t1
                    clear hl
                    subst hrq
                    go_wp2_with (first
                      | (go_at_call 68; refine HFX.out.mono ?_; rintro e wf ⟨rfl, rfl⟩)
                      | (go_at_call 67; refine HSX.out.mono ?_; rintro e w4 ⟨rfl, hb4⟩; refine halt_ ?_))
                    refine unhalt ?_
                    have HBI : Hid (Below W0.heap.size W0 w4) := hBi.out.trans (hb4.mono hwi)
                    have l0 := (hb4.cell (p := ⟨wo.heap.size, 2, none⟩) (by show wo.heap.size < _; omega)).trans HZ2.out
                    have l1 := (hb4.cell (p := ⟨db, doff + k, none⟩) (by show db < _; omega)).trans HY0.out
                    clear hb4
                    go_wp2
                    go_roundw
                    case rel => exact ⟨k + 1, d, true, by omega, by go_num, rfl, rfl, HN2.out, HBI.out⟩
                    case measure => simp [intOf]; omega
                  | false =>
                    have HN2 : Hid (NxF ts first q (deps.take (k + 1)) true nx) := by
                      show NxF _ _ _ _ _ _
                      rw [HTK.out]; exact hN.out.pass (.inl ⟨rfl, hl⟩)
                    rw [hl] at t1
                    clear hl
                    subst hrq
                    go_wp2_with (first
                      | (go_at_call 68; refine HFX.out.mono ?_; rintro e wf ⟨rfl, rfl⟩)
                      | (go_at_call 67; refine HSX.out.mono ?_; rintro e w4 ⟨rfl, hb4⟩; refine halt_ ?_))
                    refine unhalt ?_
                    have HBI : Hid (Below W0.heap.size W0 w4) := hBi.out.trans (hb4.mono hwi)
                    have l0 := (hb4.cell (p := ⟨wo.heap.size, 2, none⟩) (by show wo.heap.size < _; omega)).trans HZ2.out
                    have l1 := (hb4.cell (p := ⟨db, doff + k, none⟩) (by show db < _; omega)).trans HY0.out
                    clear hb4
                    go_wp2
                    go_roundw
                    case rel => exact ⟨k + 1, nx, true, by omega, by go_num, rfl, rfl, HN2.out, HBI.out⟩
                    case measure => simp [intOf]; omega
              · have HN2 : Hid (NxF ts first q (deps.take (k + 1)) f nx) := by
                  show NxF _ _ _ _ _ _
                  rw [HTK.out]; exact hN.out.pass (.inr (.inr (fun h => hrq ((stpR_eq HR0.out).2 h))))
                have hne : (r0 == (q : Int) + 1) = false := by rw [beq_eq_false_iff_ne]; exact hrq
                clear hrq
                go_wp2_with (first
                  | (go_at_call 68; refine HFX.out.mono ?_; rintro e wf ⟨rfl, rfl⟩)
                  | (go_at_call 67; refine HSX.out.mono ?_; rintro e w4 ⟨rfl, hb4⟩; refine halt_ ?_))
                refine unhalt ?_
                have HBI : Hid (Below W0.heap.size W0 w4) := hBi.out.trans (hb4.mono hwi)
                have l0 := (hb4.cell (p := ⟨wo.heap.size, 2, none⟩) (by show wo.heap.size < _; omega)).trans HZ2.out
                have l1 := (hb4.cell (p := ⟨db, doff + k, none⟩) (by show db < _; omega)).trans HY0.out
                clear hb4
                go_wp2
                go_roundw
                case rel => exact ⟨k + 1, nx, f, by omega, by go_num, rfl, rfl, HN2.out, HBI.out⟩
                case measure => simp [intOf]; omega
          · have hlz : ¬ (k : Int) < (dn : Int) := by omega
            have HN2 : Hid (NxF ts first q deps f nx) := by
              have h1 := hN.out; rwa [List.take_of_length_le (by rw [HDL.out]; omega)] at h1
            obtain ⟨dx, hdx1, hdx2, hdx3⟩ := HCX.out
            obtain ⟨hft, _⟩ := HN2.out.2 dx hdx1 hdx2 hdx3
            subst hft
            obtain ⟨hn1, hn2, hn3⟩ := HN2.out.1 rfl
            have HC2 : Hid (CycQ (nxT ts) first (l ++ [nx]) nx q) := .more hCQ.out (by rw [HNX.out]; exact List.mem_filter.2 ⟨hn1, hn2⟩) hn3 (fun d hd hdd => by
              rw [HNX.out] at hd
              obtain ⟨h1, h2⟩ := List.mem_filter.1 hd
              exact (HN2.out.2 d h1 h2 hdd).2)
            have HD2 := Lib.hid hn3
            have HOi : Hid (wr.ownsRow w.heap.size 9 1 (.slice A5 m5 c5) m5 (strs l)) := own_keep hO.out (fun j hj => (hBi.out.block j (by have := (hO.out.lt j hj).2; omega)).trans (HBW0.out.block j (hO.out.lt j hj).2))
            clear hn1 hn2 hn3 hdx1 hdx2 hdx3 hN hBi
            go_wp2_with (at_builtin; refine halt_app (.tmp 83) (.tmp 85) 33 rfl ?_)
            refine unhalt ?_
            refine wpList_append_sl (base := w.heap.size) (size := 1) _ rfl (.tmp 83) (.tmp 85) 33 rfl 9 i0 _ 16 Tryz.underlying33 Hi.out Hz0.out Hz1.out Hz2.out rfl (by decide) (.slice A5 m5 c5) m5 (strs l) rfl ?own_2 (wr.heap.size + 1) _ 1 _ [.string nx] rfl ?nw2_2 (by simp [Value.oneCell']) ?m1_2 ?m2_2 ?m3_2 ?_
            case own_2 => exact HOi.out.kept (World.grownBy_alloc wr _ none) (by cases hv : (Value.slice A5 m5 c5).ownBlock with | none => exact .inl rfl | some k => exact .inr (by simp))
            case nw2_2 => exact ⟨rfl, fun _ => ⟨wr.heap.size, 0, rfl, Nat.lt_succ_self _, fun j u hu => by have := new_cell wr 9 nx j u hu; rwa [Addr.add_lit] at this⟩⟩
            case m1_2 => unfold maxLen; omega
            case m2_2 => omega
            case m3_2 => have := HBw.out.size; simp; omega
            intro A6 c6 w5 ho5 hg5 hc51 hc52
            have HO5 : Hid (w5.ownsRow w.heap.size 9 1 (.slice A6 (m5 + 1) c6) (m5 + 1) (strs (l ++ [nx]))) := by
              show World.ownsRow _ _ _ _ _ _ _
              rw [strs_sn1]; exact ho5
            have HB5 : Hid (Below w.heap.size w w5) := (HBw.out.alloc HBw.out.size _).grown hg5 (by have := HBw.out.size; simp; omega) (fun k hk => ownBlock_ge HOi.out k hk)
            clear ho5 hg5
            go_wp2
            go_roundw
            case rel => exact ⟨q, nx, A6, c6, l ++ [nx], m5 + 1, by go_num, rfl, rfl, by show _ = _; rw [List.length_append, ← hm5.out]; rfl, hc51, hc52, HO5.out, HC2.out, HD2.out, by omega, HB5.out⟩
            case measure => simp [intOf]; omega
end Go.Proofs.YtddlohbhchjjhaaGreatDoor

namespace Go.Proofs.YtddlohbhchjjhaaGreatDoor

section
variable {nx lu : ByteArray → List ByteArray} {s : ByteArray} {pre : List (ByteArray × Nat)}
theorem stp_rev' (inv : ∀ d x, x ∈ lu d ↔ d ∈ nx x) : ∀ {n : Nat} {a b : ByteArray}, Stp lu n b a → Stp nx n a b
  | 0, a, b, h => (inv b a).1 h
  | _ + 1, a, _, ⟨c, hc, hb⟩ => Stp.cons ((inv c a).1 hb) (stp_rev' inv hc)
theorem dst_rev (inv : ∀ d x, x ∈ lu d ↔ d ∈ nx x) {n : Nat} {a b : ByteArray} (h : Dst lu n b a) : Dst nx n a b :=
  ⟨stp_rev' inv h.1, fun m hm hs => h.2 m hm (stp_rev inv hs)⟩
theorem Note.dst (h : Note nx lu s pre) {x : ByteArray} {q : Nat} (hx : x ≠ s) : stOf pre s x = some (q + 1) ↔ Dst nx q x s := by
  rw [stOf_eq, if_neg hx]
  constructor
  · intro hk
    obtain ⟨k, e1, e2⟩ := h.got.lst _ (noted_mem hk)
    simp only at e1 e2
    obtain rfl : q = k := by omega
    exact dst_rev h.inv e2
  · intro hd
    obtain ⟨k, hk⟩ := noted_some ((h.all x).2 ⟨q, stp_rev h.inv hd.1⟩)
    obtain ⟨j, e1, e2⟩ := h.got.lst _ (noted_mem hk)
    simp only at e1 e2
    have := (dst_rev h.inv e2).uniq hd
    rw [hk, e1, this]
theorem Note.pos (h : Note nx lu s pre) {x : ByteArray} {k : Nat} (hx : x ≠ s) (hk : stOf pre s x = some k) : ∃ q, k = q + 1 ∧ Dst nx q x s := by
  cases k with
  | zero =>
    rw [stOf_eq, if_neg hx] at hk
    obtain ⟨j, e1, _⟩ := h.got.lst _ (noted_mem hk)
    simp at e1
  | succ q => exact ⟨q, rfl, (h.dst hx).1 hk⟩
theorem cycP_q (h : Note nx lu s pre) (hr : Rch nx s s) {l : List ByteArray} {x : ByteArray} (hp : CycP nx (stOf pre s) s l x) : ∃ q, Dst nx q x s ∧ CycQ nx s l x q := by
  induction hp with
  | one => obtain ⟨K, hK⟩ := Dst.of_rch hr; exact ⟨K, hK, .one hK⟩
  | @more c x y k hc hb hne ih =>
    obtain ⟨q, hq, hQ⟩ := ih
    obtain ⟨qy, rfl, hy⟩ := h.pos hne hb.at_
    have hns : s ∉ nx x := fun hm => by
      have := hb.low s hm 0 (by rw [stOf_eq, if_pos rfl])
      omega
    cases q with
    | zero => exact absurd hq.1 hns
    | succ q =>
      obtain ⟨d, hd, hdq⟩ := hq.next
      have hds : d ≠ s := fun e => hns (e ▸ hd)
      have h1 := hb.low d hd (q + 1) ((h.dst hds).2 hdq)
      have h2 : ¬ qy + 1 < q + 1 := fun hl => hq.2 (qy + 1) hl (Stp.cons hb.mem hy.1)
      obtain rfl : qy = q := by omega
      refine ⟨qy, hy, .more hQ hb.mem hy fun e he hed => ?_⟩
      have hes : e ≠ s := fun e' => hns (e' ▸ he)
      rcases hb.low e he (qy + 1) ((h.dst hes).2 hed) with h3 | h3
      · omega
      · exact h3.2
theorem cycQ_le {l : List ByteArray} {x : ByteArray} {q K : Nat} (hK : Dst nx K s s) (h : CycQ nx s l x q) : Dst nx q x s ∧ q ≤ K := by
  induction h with
  | one h => exact ⟨h, by rw [h.uniq hK]; exact Nat.le_refl _⟩
  | more _ _ hd _ ih => exact ⟨hd, by have := ih.2; omega⟩
theorem cycQ_uniq {l : List ByteArray} {x : ByteArray} {q K : Nat} (hK : Dst nx K s s) (h : CycQ nx s l x q) : ∀ {l' : List ByteArray} {x' : ByteArray}, CycQ nx s l' x' q → l = l' ∧ x = x' := by
  induction h with
  | one h =>
    intro l' x' h'
    cases h' with
    | one _ => exact ⟨rfl, rfl⟩
    | more hc _ _ _ => have := (cycQ_le hK hc).2; have := h.uniq hK; omega
  | @more c x y q hc hm hd hl ih =>
    intro l' x' h'
    cases h' with
    | one h2 => have := (cycQ_le hK hc).2; have := h2.uniq hK; omega
    | @more c' x2 _ _ hc' hm' hd' hl' =>
      obtain ⟨rfl, rfl⟩ := ih hc'
      have : y = x' := lessB_conn (hl' _ hm hd) (hl _ hm' hd')
      subst this
      exact ⟨rfl, rfl⟩
end
theorem CycleR.toR {ts : List Tg} {l : List ByteArray} (h : CycleR ts l) : RcyR ts l := by
  rcases h with h | ⟨s, lu, pre, x, _, h1, h2, h3, h4, h5, k, h6⟩
  · exact .inl h
  · obtain ⟨q, hq, hQ⟩ := cycP_q h4 h2 h5
    have hz := h6.at_
    rw [stOf_eq, if_pos rfl] at hz
    cases hz
    have : Dst (nxT ts) 0 x s := ⟨h6.mem, fun m hm => by omega⟩
    obtain rfl := hq.uniq this
    exact .inr ⟨s, x, h1, h2, h3, hQ⟩
theorem RcyR.uniq {ts : List Tg} {l m : List ByteArray} (h : RcyR ts l) (g : RcyR ts m) : l = m := by
  rcases h with ⟨rfl, h⟩ | ⟨s, x, h1, h2, h3, h4⟩
  · rcases g with ⟨rfl, _⟩ | ⟨t, _, _, g2, _, _⟩
    · rfl
    · exact absurd g2 (h t)
  · rcases g with ⟨_, g⟩ | ⟨t, y, g1, g2, g3, g4⟩
    · exact absurd h2 (g s)
    · have e : s = t := by
        refine lessB_conn ?_ ?_
        · cases hl : less s t with
          | false => rfl
          | true => exact absurd h2 (g3 s hl)
        · cases hl : less t s with
          | false => rfl
          | true => exact absurd g2 (h3 t hl)
      subst e
      obtain ⟨K, hK⟩ := Dst.of_rch h2
      exact (cycQ_uniq hK h4 g4).1
end Go.Proofs.YtddlohbhchjjhaaGreatDoor

namespace Go.Proofs.YtddlohbhchjjhaaGreatDoor
open Go.RowKit Go.Shelf

def bldB (p : ByteArray) : Bool := decide (p = bldS (dirS p))
inductive Gat : List Fl → Sum (List Ct) (ByteArray × Int) → Prop
  | nil : Gat [] (.inl [])
  | skip {f : Fl} {fs : List Fl} {o : Sum (List Ct) (ByteArray × Int)} : bldB f.1 = false → Gat fs o → Gat (f :: fs) o
  | bad {f : Fl} {fs : List Fl} {cs : List Ct} {e : Int} : bldB f.1 = true → LfR f cs e → e ≠ 0 → Gat (f :: fs) (.inr (f.1, e))
  | add {f : Fl} {fs : List Fl} {cs ds : List Ct} : bldB f.1 = true → LfR f cs 0 → Gat fs (.inl ds) → Gat (f :: fs) (.inl (cs ++ ds))
  | err {f : Fl} {fs : List Fl} {cs : List Ct} {x : ByteArray × Int} : bldB f.1 = true → LfR f cs 0 → Gat fs (.inr x) → Gat (f :: fs) (.inr x)
theorem Gat.uniq {fs : List Fl} {o p : Sum (List Ct) (ByteArray × Int)} (h : Gat fs o) : Gat fs p → o = p := by
  induction h generalizing p with
  | nil => intro g; cases g; rfl
  | skip h1 _ ih => intro g; cases g with
    | skip _ g => exact ih g
    | bad g1 _ _ => rw [h1] at g1; cases g1
    | add g1 _ _ => rw [h1] at g1; cases g1
    | err g1 _ _ => rw [h1] at g1; cases g1
  | bad h1 h2 h3 => intro g; cases g with
    | skip g1 _ => rw [h1] at g1; cases g1
    | bad _ g2 _ => rw [(h2.same g2).2]
    | add _ g2 _ => exact absurd (h2.same g2).2 h3
    | err _ g2 _ => exact absurd (h2.same g2).2 h3
  | add h1 h2 _ ih => intro g; cases g with
    | skip g1 _ => rw [h1] at g1; cases g1
    | bad _ g2 g3 => exact absurd (h2.same g2).2.symm g3
    | add _ g2 g3 => have := ih g3; injection this with e; rw [e, (h2.same g2).1]
    | err _ g2 g3 => have := ih g3; cases this
  | err h1 h2 _ ih => intro g; cases g with
    | skip g1 _ => rw [h1] at g1; cases g1
    | bad _ g2 g3 => exact absurd (h2.same g2).2.symm g3
    | add _ g2 g3 => have := ih g3; cases this
    | err _ g2 g3 => exact ih g3
def GatP (fs : List Fl) (k : Nat) (cs : List Ct) : Prop := (∀ ds, Gat (fs.drop k) (.inl ds) → Gat fs (.inl (cs ++ ds))) ∧ ∀ x, Gat (fs.drop k) (.inr x) → Gat fs (.inr x)
theorem GatP.start (fs : List Fl) : GatP fs 0 [] := ⟨fun _ h => h, fun _ h => h⟩
theorem drop_at {α : Type} {l : List α} {k : Nat} {x : α} (h : l[k]? = some x) : l.drop k = x :: l.drop (k + 1) := by
  obtain ⟨hk, rfl⟩ := List.getElem?_eq_some_iff.1 h
  exact (List.getElem_cons_drop hk).symm
theorem GatP.skip {fs : List Fl} {k : Nat} {cs : List Ct} {f : Fl} (h : GatP fs k cs) (hf : fs[k]? = some f) (hb : bldB f.1 = false) : GatP fs (k + 1) cs :=
  ⟨fun ds hd => h.1 ds (by rw [drop_at hf]; exact .skip hb hd), fun x hx => h.2 x (by rw [drop_at hf]; exact .skip hb hx)⟩
theorem GatP.add {fs : List Fl} {k : Nat} {cs ds : List Ct} {f : Fl} (h : GatP fs k cs) (hf : fs[k]? = some f) (hb : bldB f.1 = true) (hl : LfR f ds 0) : GatP fs (k + 1) (cs ++ ds) :=
  ⟨fun es he => by rw [List.append_assoc]; exact h.1 _ (by rw [drop_at hf]; exact .add hb hl he), fun x hx => h.2 x (by rw [drop_at hf]; exact .err hb hl hx)⟩
theorem GatP.bad {fs : List Fl} {k : Nat} {cs ds : List Ct} {f : Fl} {e : Int} (h : GatP fs k cs) (hf : fs[k]? = some f) (hb : bldB f.1 = true) (hl : LfR f ds e) (he : e ≠ 0) : Gat fs (.inr (f.1, e)) :=
  h.2 _ (by rw [drop_at hf]; exact .bad hb hl he)
theorem GatP.done {fs : List Fl} {cs : List Ct} {k : Nat} (h : GatP fs k cs) (hk : fs.length ≤ k) : Gat fs (.inl cs) := by
  have := h.1 [] (by rw [List.drop_of_length_le hk]; exact .nil)
  rwa [List.append_nil] at this

def nf (r : Tg) : Tg := ctT (ct r)
theorem nf_map (ts : List Tg) : (ts.map ct).map ctT = ts.map nf := by simp [nf, Function.comp_def]
theorem findT_nf : ∀ (ts : List Tg) (s : ByteArray), findT (ts.map nf) s = (findT ts s).map nf
  | [], _ => rfl
  | t :: ts, s => by
    simp only [List.map_cons, findT]
    rw [show (nf t).lab = t.lab from rfl]
    by_cases e : t.lab = s
    · rw [if_pos e, if_pos e]; rfl
    · rw [if_neg e, if_neg e]; exact findT_nf ts s
theorem isT_nf (ts : List Tg) (s : ByteArray) : isT (ts.map nf) s = isT ts s := by unfold isT; rw [findT_nf]; cases findT ts s <;> rfl
theorem nxT_nf (ts : List Tg) : nxT (ts.map nf) = nxT ts := by
  funext s
  unfold nxT
  rw [findT_nf]
  cases findT ts s with
  | none => rfl
  | some t => simp only [Option.map_some]; exact List.filter_congr fun x _ => isT_nf ts x
theorem depE_nf (ts : List Tg) (lab : ByteArray) : ∀ ds, depE (ts.map nf) lab ds = depE ts lab ds
  | [] => rfl
  | d :: ds => by
    simp only [depE]
    rw [findT_nf]
    cases findT ts d with
    | none => rfl
    | some o => simp only [Option.map_some]; rw [depE_nf ts lab ds]; rfl
theorem ctE_nf (ps : List ByteArray) (ts : List Tg) (t : Tg) : ctE ps (ts.map nf) (nf t) = ctE ps ts t := by
  unfold ctE
  rw [depE_nf]; rfl
theorem rcyR_nf {ts : List Tg} {l : List ByteArray} (h : RcyR ts l) : RcyR (ts.map nf) l := by
  unfold RcyR at h ⊢
  rw [nxT_nf]
  rcases h with h | ⟨s, x, h1, h2⟩
  · exact .inl h
  · exact .inr ⟨s, x, by rw [isT_nf]; exact h1, h2⟩
def SrtC (cs : List Ct) : Prop := cs.Pairwise (fun a b => less b.2.1 a.2.1 = false)
def LdT (ps : List ByteArray) (ss us : List Ct) (wh : ByteArray) (err : Int) : Prop :=
  (∃ k c, ss[k]? = some c ∧ (∀ d ∈ ss.take k, ctE ps (ss.map ctT) (ctT d) = 0) ∧ ctE ps (ss.map ctT) (ctT c) = err ∧ err ≠ 0 ∧ us = [] ∧ wh = c.2.1) ∨
  ((∀ d ∈ ss, ctE ps (ss.map ctT) (ctT d) = 0) ∧ ∃ l, RcyR (ss.map ctT) l ∧ ((∃ x xs, l = x :: xs ∧ us = [] ∧ wh = x ∧ err = 23) ∨ (l = [] ∧ us = ss ∧ wh = ⟨#[]⟩ ∧ err = 0)))
def LdR (fs : List Fl) (us : List Ct) (wh : ByteArray) (err : Int) : Prop :=
  ∃ e0, TckR fs e0 ∧ ((e0 ≠ 0 ∧ us = [] ∧ wh = ⟨#[]⟩ ∧ err = e0) ∨ (e0 = 0 ∧
    ((∃ p e, Gat fs (.inr (p, e)) ∧ us = [] ∧ wh = p ∧ err = e) ∨
     (∃ ds, Gat fs (.inl ds) ∧ ((100 < ds.length ∧ us = [] ∧ wh = ⟨#[]⟩ ∧ err = 4) ∨ (ds.length ≤ 100 ∧ ∃ ss, ss.Perm ds ∧ SrtC ss ∧ LdT (fs.map Prod.fst) ss us wh err))))))
end Go.Proofs.YtddlohbhchjjhaaGreatDoor
