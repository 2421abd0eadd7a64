/-
  Lemmas: tree.Set and tree.Remove: the walks. The chapter's example, and reading with another fuel; in plain Lean. The reference's comparing of files, of pools and of changes. cordwoodlaw09.awake. The reference's bounds on files (XGr9's first part, for seats without graph.checkTarget). TreePatch and TreeRoundTrip in plain Lean: what Diff and Patch answer on what is stored. TreeLists: the law. The arguments that come in (law09): digests, pools, changes.
-/
import Derived.Deep.QuietTactic
import Derived.BigQuiet
import Derived.Laws.StructEq
import Derived.Test.YtmdhlkkekidknaaGreatDoorWCTli11
import Derived.Test.YtmdhlkkekidknaaGreatDoorWCTli9
import Derived.Test.YtmdhlkkekidknaaGreatDoorWCTli4
import Derived.Test.YtmdhlkkekidknaaGreatDoorWCTli10
import Derived.Test.YtmdhlkkekidknaaGreatDoorWCTli1

namespace Go.Proofs.YtmdhlkkekidknaaGreatDoor
open Go.RowKit Go.Shelf

def EdtE (p : List Itm) (d : Dig) (f : List Fl → Int × List Fl) (w : World) (e : Ending) (w' : World) : Prop :=
  ((∃ err, LodE p d err ∧ err ≠ 0 ∧ e = .returned (.tuple #[.slice none 0 0, digV zD, .int .i64 err])) ∨
   (∃ fs, LdSeq p d fs ∧ (((f fs).1 ≠ 0 ∧ e = .returned (.tuple #[.slice none 0 0, digV zD, .int .i64 (f fs).1])) ∨ ((f fs).1 = 0 ∧
    ((∃ z, TckR (f fs).2 z ∧ z ≠ 0 ∧ e = .returned (.tuple #[.slice none 0 0, digV zD, .int .i64 z])) ∨
     (TckR (f fs).2 0 ∧ ((∃ q dd A c, sto 101 p (f fs).2 = some (q, dd) ∧ StoR p q dd (f fs).2 ∧ e = .returned (.tuple #[.slice A q.length c, digV dd, .int .i64 0]) ∧ Sl w' w'.heap.size 3 A q.length (flat itC q) ∧ q.length ≤ c ∧ c ≤ maxLen) ∨ (sto 101 p (f fs).2 = none ∧ e = .returned (.tuple #[.slice none 0 0, digV zD, .int .i64 16])))))))))
  ∧ Below w.heap.size w w'
theorem own_fl {w : World} {base n c i : Nat} {A : Option Addr} {l : List Fl} (h : w.ownsRow base 68 2 (.slice A n c) n (flat flC l)) (hn : l.length = n) (hi : i < n) :
    ∃ g x y, A = some ⟨g, 0, none⟩ ∧ base ≤ g ∧ g < w.heap.size ∧ w.cell? ⟨g, i * 2, none⟩ = some x ∧ w.cell? ⟨g, i * 2 + 1, none⟩ = some y ∧ w.frozen? ⟨g, i * 2, none⟩ = false ∧ w.frozen? ⟨g, i * 2 + 1, none⟩ = false := by
  obtain ⟨hxl, hform⟩ := h
  rcases hform with ⟨hv, h0, _⟩ | ⟨g', c', cur, hv, hb, hh, h1, h2, h3, h4⟩
  · omega
  injection hv with hv1 hv2 hv3
  subst hv1
  have hsp : ∀ j, j < n * 2 → ∃ v, w.cell? ⟨g', j, none⟩ = some v := fun j hj => by
    have : j < cur.size := by omega
    exact ⟨cur[j], by simp [World.cell?, hh, this]⟩
  obtain ⟨x, hx⟩ := hsp (i * 2) (by omega)
  obtain ⟨y, hy⟩ := hsp (i * 2 + 1) (by omega)
  exact ⟨g', x, y, rfl, hb, (Array.getElem?_eq_some_iff.1 hh).1, hx, hy, by simp [World.frozen?, hh], by simp [World.frozen?, hh]⟩
def setF (path data : ByteArray) (fs : List Fl) : Int × List Fl := if pathB path = true then (0, withF fs (path, data)) else (6, [])
set_option maxRecDepth 100000 in
set_option maxHeartbeats 8000000 in
theorem tset_any (A : Option Addr) (np cp B : Nat) (p : List Itm) (d : Dig) (path data : ByteArray) (w : World) (h0 : Sl w B 3 A np (flat itC p)) (hB : B ≤ w.heap.size) (hnc : np ≤ cp) (hcm : cp ≤ maxLen) (hn : np ≤ 700000) (hp : PlOk p) (hs : ∀ i ∈ p, i.2.size ≤ 60000) (hps : path.size ≤ 1000000) (hds : data.size ≤ 60000) :
    Calls Tryz.prog 18 #[.slice A np cp, digV d, .string path, .string data] w (EdtE p d (setF path data) w) := by
  have HP := Lib.hid hp; have H0 := Lib.hid h0; have HS := Lib.hid hs; have HNC := Lib.hid hnc; have HCM := Lib.hid hcm
  obtain ⟨d1, d2⟩ := d
  obtain ⟨W, hW⟩ : ∃ W, (w.alloc (.cells #[.int .u64 d1, .int .u64 d2] 30)).alloc (.cells #[.int .u64 0, .int .u64 0] 30) = W := ⟨_, rfl⟩
  have HB0 : Hid (Below w.heap.size w W) := by rw [← hW]; exact ((Below.refl _ w).alloc (Nat.le_refl _) _).alloc (by simp) _
  have HD : Hid (Bk W (w.heap.size + 1) 30 #[.int .u64 0, .int .u64 0]) := by
    rw [← hW]
    have := Bk.new (w.alloc (.cells #[.int .u64 d1, .int .u64 d2] 30)) 30 #[.int .u64 0, .int .u64 0]
    rw [World.size_alloc] at this; exact this
  have zW : w.heap.size + 2 = W.heap.size := by rw [← hW]; simp
  have HC := Lib.hid (tload_any A np cp B p (d1, d2) W (h0.below HB0.out hB) (Nat.le_trans hB HB0.out.size) (by omega) hp)
  unfold LdEE at HC
  have HW := Lib.hid hW
  simp only [digV] at HC ⊢
  clear hp h0 hs hW hnc hcm
  go_enter Tryz.func18, Tryz.ntmps18
  go_wp2_with fail
  rw [HW.out]
  refine HC.out.mono ?_
  rintro e w2 ⟨hq, hb⟩
  have HB2 : Hid (Below w.heap.size w w2) := HB0.out.trans (hb.mono HB0.out.size)
  have HD2 := Lib.hid (HD.out.below hb (by omega))
  obtain ⟨y0, y1, _, _⟩ := HD2.out.two
  have g0 := HD2.out.free 0; have g1 := HD2.out.free 1
  have z2 : w.heap.size + 2 ≤ w2.heap.size := by have := hb.size; omega
  clear hb HC
  rcases hq with ⟨fs, A1, c1, hld, rfl, hown⟩ | ⟨err, hlod, hnz, rfl⟩
  case inr =>
    have t1 : (err != 0) = true := by rw [bne_iff_ne]; exact hnz
    have HL := Lib.hid hlod; have HNZ := Lib.hid hnz
    clear hlod hnz
    go_wp2_with fail
    refine bodyPost_ret (res_pcp Tryz.results18 rfl rfl (HD2.out.set2 _ _) rfl) rfl ⟨.inl ⟨err, HL.out, HNZ.out, rfl⟩, below_set2 HB2.out (by omega) _ _⟩
  case inl =>
    have HLD := Lib.hid hld; have HOW := Lib.hid hown
    obtain ⟨hok, _⟩ := load_std HP.out HS.out hld
    have HOK := Lib.hid hok
    have hfew := hok.few
    have HPI := Lib.hid (isPath_any path w2 (by unfold maxLen; omega))
    clear hld hown hok
    obtain ⟨pb, hpb⟩ : ∃ pb, pathB path = pb := ⟨_, rfl⟩
    rw [hpb] at HPI
    have HPB := Lib.hid hpb
    clear hpb
    go_wp2_with fail
    refine HPI.out.mono ?_
    rintro e w3 ⟨rfl, hb⟩
    have HB3 : Hid (Below w.heap.size w w3) := HB2.out.trans (hb.mono HB2.out.size)
    have HD3 := Lib.hid (HD2.out.below hb (by omega))
    have HO3 := Lib.hid (ownsRow_upon HOW.out hb)
    have z3 : w.heap.size + 2 ≤ w3.heap.size := by have := hb.size; omega
    have zb3 : W.heap.size ≤ w3.heap.size := by omega
    clear hb HPI y0 y1 g0 g1 HD2 HOW
    obtain ⟨y0, y1, _, _⟩ := HD3.out.two
    have g0 := HD3.out.free 0; have g1 := HD3.out.free 1
    cases pb with
    | false =>
      have HF : Hid (setF path data fs = (6, [])) := by show _ = _; unfold setF; rw [HPB.out]; rfl
      go_wp2_with fail
      refine bodyPost_ret (res_pcp Tryz.results18 rfl rfl (HD3.out.set2 _ _) rfl) rfl ⟨.inr ⟨fs, HLD.out, .inl ⟨by rw [HF.out]; decide, by rw [HF.out]; rfl⟩⟩, below_set2 HB3.out (by omega) _ _⟩
    | true =>
      have HF : Hid (setF path data fs = (0, withF fs (path, data))) := by show _ = _; unfold setF; rw [HPB.out]; rfl
      obtain ⟨W4, hW4⟩ : ∃ W4, w3.alloc (.cells #[.string path, .string data] 68) = W4 := ⟨_, rfl⟩
      have HB4 : Hid (Below w3.heap.size w3 W4) := by rw [← hW4]; exact (Below.refl _ w3).alloc (Nat.le_refl _) _
      have HK4 : Hid (Bk W4 w3.heap.size 68 #[.string path, .string data]) := by rw [← hW4]; exact Bk.new w3 _ _
      have HO4 := Lib.hid (ownsRow_upon HO3.out HB4.out)
      have z4 : w3.heap.size < W4.heap.size := HK4.out.lt
      have HFI := Lib.hid (tfind_any A1 fs.length c1 W4.heap.size fs path W4 (Sl.of_own HO4.out) (Nat.le_refl _) (by omega) HLD.out.asc)
      unfold TfE at HFI
      obtain ⟨m, hm⟩ : ∃ m, atF fs path = m := ⟨_, rfl⟩
      rw [hm] at HFI
      have HM := Lib.hid hm
      have HW4 := Lib.hid hW4
      have HD4 := Lib.hid (HD3.out.below HB4.out (by omega))
      clear hm hW4 y0 y1 g0 g1
      go_wp2_with fail
      rw [HW4.out]
      refine HFI.out.mono ?_
      rintro e w5 ⟨rfl, hb⟩
      have HO5 := Lib.hid (ownsRow_upon HO4.out hb)
      have HK5 := Lib.hid (HK4.out.below hb z4)
      have HD5 := Lib.hid (HD4.out.below hb (by omega))
      have HB5 : Hid (Below w.heap.size w w5) := HB3.out.trans ((HB4.out.trans (hb.mono HB4.out.size)).mono HB3.out.size)
      have z5 : w3.heap.size < w5.heap.size := Nat.lt_of_lt_of_le z4 hb.size
      clear hb HFI HB4 HK4 HO4 HD4 HD3 HO3 HB3
      obtain ⟨k0, k1, _, _⟩ := HK5.out.two
      have hmn : m ≤ fs.length := by rw [← HM.out]; exact atF_le _ _
      have HS : Hid (Sl w5 w5.heap.size 2 A1 fs.length (flat flC fs)) := Sl.of_own HO5.out
      obtain ⟨A1', c1', e1, hc1, hc2⟩ := ownsRow_form HO5.out
      simp only [Value.slice.injEq, true_and] at e1
      obtain ⟨rfl, rfl⟩ := e1
      have z5' : w.heap.size + 2 ≤ w5.heap.size := by omega
      have zb5 : W.heap.size ≤ w5.heap.size := by omega
      have h62 : ∀ f ∈ fs, f.1.size ≤ 1000000 ∧ f.2.size ≤ 60000 := fun f hf => ⟨Nat.le_trans (path_len (HOK.out.path f hf)) (by omega), HOK.out.data f hf⟩
      have H62 : Hid (∀ f ∈ withF fs (path, data), f.1.size ≤ 1000000 ∧ f.2.size ≤ 60000) := fun f hf => by
        rcases mem_withF.1 hf with ⟨h1, _⟩ | rfl
        · exact h62 f h1
        · exact ⟨hps, hds⟩
      clear h62
      cases hlk : lookF9 fs path with
      | some dd =>
        have hml : m < fs.length := by
          rcases Nat.lt_or_ge m fs.length with h | h
          · exact h
          · rw [look_end HLD.out.asc (by rw [HM.out]; exact h)] at hlk; cases hlk
        obtain ⟨g, x, y, rfl, hgb, hgl, hx, hy, hfx, hfy⟩ := own_fl HO5.out rfl hml
        have HR := Lib.hid (Sl.replace (f := (path, data)) HS.out rfl hml)
        have HSW : Hid (fs.take m ++ (path, data) :: fs.drop (m + 1) = withF fs (path, data)) := by
          obtain ⟨g', hg', he'⟩ : ∃ g', fs[atF fs path]? = some g' ∧ g'.1 = path := by
            rw [HM.out, List.getElem?_eq_getElem hml]
            refine ⟨_, rfl, ?_⟩
            have := look_at HLD.out.asc (s := path) (g := fs[m]) (by rw [HM.out, List.getElem?_eq_getElem hml])
            rw [hlk] at this
            split at this
            · assumption
            · cases this
          have := set_with HLD.out.asc (f := (path, data)) hg' he'
          rw [HM.out] at this
          exact this
        clear hlk
        obtain ⟨w6, hw6⟩ : ∃ w6, (w5.setCell ⟨g, m * 2, none⟩ (.string path)).setCell ⟨g, m * 2 + 1, none⟩ (.string data) = w6 := ⟨_, rfl⟩
        have HB6 : Hid (Below w.heap.size w w6) := by rw [← hw6]; exact (HB5.out.setCell (p := ⟨g, m * 2, none⟩) (by show w.heap.size ≤ g; omega) _).setCell (p := ⟨g, m * 2 + 1, none⟩) (by show w.heap.size ≤ g; omega) _
        have z6 : w6.heap.size = w5.heap.size := by rw [← hw6]; simp [World.setCell]
        have HS6 : Hid (Sl w6 w6.heap.size 2 (some ⟨g, 0, none⟩) fs.length (flat flC (withF fs (path, data)))) := by
          show Sl _ _ _ _ _ _
          rw [z6, ← HSW.out, ← hw6]; exact HR.out
        have HD6 : Hid (Bk w6 (w.heap.size + 1) 30 #[.int .u64 0, .int .u64 0]) := by rw [← hw6]; exact (HD5.out.far (p := ⟨g, m * 2, none⟩) (by show w.heap.size + 1 ≠ g; omega) _).far (p := ⟨g, m * 2 + 1, none⟩) (by show w.heap.size + 1 ≠ g; omega) _
        have HW6 := Lib.hid hw6
        have h6n : fs.length ≤ 1000000 := by omega
        clear hw6 HR HSW HO5 HS
        have H0S := Lib.hid (H0.out.below HB6.out hB)
        have HST := Lib.hid (tstore_any A np cp w6.heap.size p (some ⟨g, 0, none⟩) fs.length c1 (withF fs (path, data)) w6 (H0S.out.more (Nat.le_trans hB HB6.out.size)) HS6.out (Nat.le_refl _) HNC.out HCM.out hn h6n HP.out H62.out)
        unfold StrE at HST
        clear H0S
        go_wp2_with fail
        rw [HW6.out]
        refine HST.out.mono ?_
        rintro e w7 ⟨hq, hb⟩
        have HB7 : Hid (Below w.heap.size w w7) := HB6.out.trans (hb.mono HB6.out.size)
        have HD7 := Lib.hid (HD6.out.below hb (by omega))
        obtain ⟨y0, y1, _, _⟩ := HD7.out.two
        have g0 := HD7.out.free 0; have g1 := HD7.out.free 1
        clear hb HST
        rcases hq with ⟨z, hz, hnz, rfl⟩ | ⟨hz, ⟨q, ⟨d1, d2⟩, A3, c3, hs, hr, rfl, hsl, hc3, hm3⟩ | ⟨hs, rfl⟩⟩
        · have HZ := Lib.hid hz; have HN := Lib.hid hnz
          clear hz hnz
          simp only [digV] at *
          go_wp2_with fail
          refine bodyPost_ret (res_pcp Tryz.results18 rfl rfl (HD7.out.set2 _ _) rfl) rfl ⟨.inr ⟨fs, HLD.out, .inr ⟨by rw [HF.out], .inl ⟨z, by rw [HF.out]; exact HZ.out, HN.out, rfl⟩⟩⟩, below_set2 HB7.out (by omega) _ _⟩
        · have HZ := Lib.hid hz; have HN := Lib.hid hs; have HR := Lib.hid hr; have HSL := Lib.hid hsl
          have HNE := Lib.hid (HSL.out.dgbox HD7.out)
          clear hz hs hr hsl
          simp only [digV] at *
          go_wp2_with fail
          refine bodyPost_ret (res_pcp Tryz.results18 rfl rfl (HD7.out.set2 _ _) rfl) rfl ⟨.inr ⟨fs, HLD.out, .inr ⟨by rw [HF.out], .inr ⟨by rw [HF.out]; exact HZ.out, .inl ⟨q, (d1, d2), A3, c3, by rw [HF.out]; exact HN.out, by rw [HF.out]; exact HR.out, rfl, ?_, hc3, hm3⟩⟩⟩⟩, below_set2 HB7.out (by omega) _ _⟩
          have := HSL.out.ne (b := w.heap.size + 1) HNE.out (fun k hk => (Below.heap_setCell (w7.setCell ⟨w.heap.size + 1, 0, none⟩ (.int .u64 d1)) ⟨w.heap.size + 1, 1, none⟩ (.int .u64 d2) k hk).trans (Below.heap_setCell w7 ⟨w.heap.size + 1, 0, none⟩ (.int .u64 d1) k hk))
          simpa using this
        · have HZ := Lib.hid hz; have HN := Lib.hid hs
          clear hz hs
          simp only [digV] at *
          go_wp2_with fail
          refine bodyPost_ret (res_pcp Tryz.results18 rfl rfl (HD7.out.set2 _ _) rfl) rfl ⟨.inr ⟨fs, HLD.out, .inr ⟨by rw [HF.out], .inr ⟨by rw [HF.out]; exact HZ.out, .inr ⟨by rw [HF.out]; exact HN.out, rfl⟩⟩⟩⟩, below_set2 HB7.out (by omega) _ _⟩
      | none =>
        obtain ⟨W6, hW6⟩ : ∃ W6, w5.alloc (.cells #[.string path, .string data] 68) = W6 := ⟨_, rfl⟩
        have hbb : Below w5.heap.size w5 W6 := by rw [← hW6]; exact (Below.refl _ w5).alloc (Nat.le_refl _) _
        have HK6 : Hid (Bk W6 w5.heap.size 68 #[.string path, .string data]) := by rw [← hW6]; exact Bk.new w5 _ _
        have HO6 := Lib.hid (ownsRow_upon HO5.out hbb)
        have z6 : w5.heap.size < W6.heap.size := HK6.out.lt
        have HIL : Hid (insL fs m (path, data) = withF fs (path, data)) := by
          show _ = _
          rw [← HM.out]; exact insL_with (f := (path, data)) HLD.out.asc hlk
        have HI : Hid (Calls Tryz.prog 50 #[.slice A1 fs.length c1, .int .i64 m, .slice (some ⟨w5.heap.size, 0, none⟩) 1 1] W6 (InsFE W.heap.size fs m (path, data) W6)) := by
          rcases Nat.lt_or_ge m fs.length with hml | hml
          · obtain ⟨g, x, y, rfl, hgb, hgl, _⟩ := own_fl HO5.out rfl hml
            rcases Nat.lt_or_ge fs.length c1 with hcl | hcl
            · exact insF_room W.heap.size g fs.length c1 m w5.heap.size fs (path, data) W6 HO6.out rfl hml hcl (by omega) HK6.out (by omega)
            · have e : c1 = fs.length := by omega
              subst e
              exact insF_grow W.heap.size g fs.length m w5.heap.size fs (path, data) W6 (Sl.of_own HO6.out) rfl hml (by omega) HK6.out (by omega)
          · have e : m = fs.length := by omega
            subst e
            exact insF_end W.heap.size fs.length c1 w5.heap.size A1 fs (path, data) W6 HO6.out rfl (by omega) HK6.out (by omega)
        unfold InsFE at HI
        have HBB := Lib.hid hbb
        have HW6 := Lib.hid hW6
        clear hlk hbb hW6 HO5 HS
        go_wp2_with fail
        rw [HW6.out]
        refine HI.out.mono ?_
        rintro e w6 ⟨A2, c2, rfl, hsl, hb, hc2, hm2⟩
        rw [HIL.out] at hsl
        have HS6 := Lib.hid hsl
        have hb1 : Below w.heap.size w W6 := HB5.out.trans (HBB.out.mono HB5.out.size)
        have HB6 : Hid (Below w.heap.size w w6) := hb1.trans (hb.mono HB0.out.size)
        have HD6 := Lib.hid ((HD5.out.below HBB.out (by omega)).below hb (by omega))
        have zz := hb.size
        have h6n : fs.length + 1 ≤ 1000000 := by omega
        clear hsl hb hb1 HBB HI HIL HO6
        have H0S := Lib.hid (H0.out.below HB6.out hB)
        have HST := Lib.hid (tstore_any A np cp w6.heap.size p A2 (fs.length + 1) c2 (withF fs (path, data)) w6 (H0S.out.more (Nat.le_trans hB HB6.out.size)) HS6.out (Nat.le_refl _) HNC.out HCM.out hn h6n HP.out H62.out)
        unfold StrE at HST
        clear H0S
        go_wp2_with fail
        refine HST.out.mono ?_
        rintro e w7 ⟨hq, hb⟩
        have HB7 : Hid (Below w.heap.size w w7) := HB6.out.trans (hb.mono HB6.out.size)
        have HD7 := Lib.hid (HD6.out.below hb (by omega))
        obtain ⟨y0, y1, _, _⟩ := HD7.out.two
        have g0 := HD7.out.free 0; have g1 := HD7.out.free 1
        clear hb HST
        rcases hq with ⟨z, hz, hnz, rfl⟩ | ⟨hz, ⟨q, ⟨d1, d2⟩, A3, c3, hs, hr, rfl, hsl, hc3, hm3⟩ | ⟨hs, rfl⟩⟩
        · have HZ := Lib.hid hz; have HN := Lib.hid hnz
          clear hz hnz
          simp only [digV] at *
          go_wp2_with fail
          refine bodyPost_ret (res_pcp Tryz.results18 rfl rfl (HD7.out.set2 _ _) rfl) rfl ⟨.inr ⟨fs, HLD.out, .inr ⟨by rw [HF.out], .inl ⟨z, by rw [HF.out]; exact HZ.out, HN.out, rfl⟩⟩⟩, below_set2 HB7.out (by omega) _ _⟩
        · have HZ := Lib.hid hz; have HN := Lib.hid hs; have HR := Lib.hid hr; have HSL := Lib.hid hsl
          have HNE := Lib.hid (HSL.out.dgbox HD7.out)
          clear hz hs hr hsl
          simp only [digV] at *
          go_wp2_with fail
          refine bodyPost_ret (res_pcp Tryz.results18 rfl rfl (HD7.out.set2 _ _) rfl) rfl ⟨.inr ⟨fs, HLD.out, .inr ⟨by rw [HF.out], .inr ⟨by rw [HF.out]; exact HZ.out, .inl ⟨q, (d1, d2), A3, c3, by rw [HF.out]; exact HN.out, by rw [HF.out]; exact HR.out, rfl, ?_, hc3, hm3⟩⟩⟩⟩, below_set2 HB7.out (by omega) _ _⟩
          have := HSL.out.ne (b := w.heap.size + 1) HNE.out (fun k hk => (Below.heap_setCell (w7.setCell ⟨w.heap.size + 1, 0, none⟩ (.int .u64 d1)) ⟨w.heap.size + 1, 1, none⟩ (.int .u64 d2) k hk).trans (Below.heap_setCell w7 ⟨w.heap.size + 1, 0, none⟩ (.int .u64 d1) k hk))
          simpa using this
        · have HZ := Lib.hid hz; have HN := Lib.hid hs
          clear hz hs
          simp only [digV] at *
          go_wp2_with fail
          refine bodyPost_ret (res_pcp Tryz.results18 rfl rfl (HD7.out.set2 _ _) rfl) rfl ⟨.inr ⟨fs, HLD.out, .inr ⟨by rw [HF.out], .inr ⟨by rw [HF.out]; exact HZ.out, .inr ⟨by rw [HF.out]; exact HN.out, rfl⟩⟩⟩⟩, below_set2 HB7.out (by omega) _ _⟩
end Go.Proofs.YtmdhlkkekidknaaGreatDoor

namespace Go.Proofs.YtmdhlkkekidknaaGreatDoor
open Go.RowKit

theorem split_deep {s : ByteArray} (h : deN s = true) : splitS (bl s) = bl (fsN s) :: splitS (bl (rsN s)) := by
  rw [cut_deep h]; exact splitS_seg _ _ (fsN_nosl s)
theorem getF_more {p : List Itm} : ∀ (m : Nat) (d : Dig) (s : ByteArray), (splitS (bl s)).length ≤ m → getF p m d s = getF p (splitS (bl s)).length d s
  | 0, d, s, h => absurd h (by have := List.length_pos_iff.2 (splitS_ne (bl s)); omega)
  | m + 1, d, s, h => by
    obtain ⟨n, hn⟩ : ∃ n, (splitS (bl s)).length = n + 1 := ⟨(splitS (bl s)).length - 1, by have := List.length_pos_iff.2 (splitS_ne (bl s)); omega⟩
    rw [hn]
    cases hd : deN s with
    | false => rw [getF, getF]; simp only [hd, Bool.false_eq_true, if_false]
    | true =>
      have hs := split_deep hd
      have hl : (splitS (bl (rsN s))).length = n := by rw [hs, List.length_cons] at hn; omega
      have ih := fun d => getF_more (p := p) m d (rsN s) (by omega)
      rw [hl] at ih
      rw [getF, getF]; simp only [hd, if_true, ih]
theorem std_gtR {q : List Itm} (hq : PlOk q) {k : Nat} {d : Dig} {l : List Fl} (hl : OkL l) (hs : Std q k d l) {s : ByteArray} (hp : pathB s = true) :
    (∀ b, (s, b) ∈ l → gtR q d s = (b, 0)) ∧ ((∀ f ∈ l, f.1 ≠ s) → (gtR q d s).2 ≠ 0 ∧ ((∀ f ∈ l, belB f.1 s = false ∧ belB s f.1 = false) → (gtR q d s).2 = 8)) := by
  have h1 := splitS_size (bl s)
  have h2 : (bl s).length = s.size := by simp [bl]
  have h := std_get hq k d l hl hs (s.size + 1) s hp (by omega)
  rw [getF_more (s.size + 1) d s (by omega)] at h
  unfold gtR
  rw [if_pos hp]
  exact h
theorem ascAw : AscF awL := by unfold AscF; decide +kernel
theorem okAw : OkL awL where
  path := by decide +kernel
  data := by decide +kernel
  few := by decide
  nod := asc_nodup ascAw
  nob := by decide +kernel
theorem ckAw : TckR awL 0 := ck_back okAw ascAw
def dR : Dig := ofB bR
theorem plAw : PlOk q4 := (sto_std 101 [] awL q4 dR okAw PlOk.nil sto_aw).2.1
theorem stdAw : Std q4 101 dR awL := (sto_std 101 [] awL q4 dR okAw PlOk.nil sto_aw).1
theorem ldAw : LdSeq q4 dR awL := std_load plAw okAw stdAw ascAw
theorem ld_uniq {p : List Itm} {d : Dig} {a b : List Fl} (ha : LdSeq p d a) (hb : LdSeq p d b) : a = b :=
  AscF.ext ha.asc hb.asc (fun _ => (ha.perm.mem_iff).trans (hb.perm.mem_iff).symm)
theorem ld_not {p : List Itm} {d : Dig} {a : List Fl} {err : Int} (ha : LdSeq p d a) (h : LodE p d err) : False := by
  rcases h with ⟨h, _⟩ | ⟨_, h, _⟩
  · have := ha.few; omega
  · exact h ha.ok
theorem aw_store {w w' : World} {e : Ending} (h : StrE [] awL w e w') : ∃ A c, e = .returned (.tuple #[.slice A 4 c, digV dR, .int .i64 0]) ∧ Sl w' w'.heap.size 3 A 4 (flat itC q4) ∧ 4 ≤ c ∧ c ≤ maxLen ∧ Below w.heap.size w w' := by
  obtain ⟨h, hb⟩ := h
  rcases h with ⟨z, hz, hn, _⟩ | ⟨_, ⟨q, d, A, c, h1, _, rfl, h3, h4, h5⟩ | ⟨h1, _⟩⟩
  · exact absurd (TckR.same hz ckAw) hn
  · rw [sto_aw] at h1
    injection h1 with h1
    injection h1 with h1 h2
    subst h1; subst h2
    rw [q4_len] at h3 h4
    exact ⟨A, c, by rw [q4_len]; rfl, h3, h4, h5, hb⟩
  · rw [sto_aw] at h1; cases h1
theorem aw_load {w w' : World} {e : Ending} (h : LdEE q4 dR w e w') : ∃ A c, e = .returned (.tuple #[.slice A 2 c, .int .i64 0]) ∧ Sl w' w'.heap.size 2 A 2 (flat flC awL) ∧ Below w.heap.size w w' := by
  obtain ⟨h, hb⟩ := h
  rcases h with ⟨fs, A, c, h1, rfl, h3⟩ | ⟨err, h1, _⟩
  · have := ld_uniq h1 ldAw
    subst this
    exact ⟨A, c, rfl, Sl.of_own h3, hb⟩
  · exact (ld_not ldAw h1).elim
theorem aw_set {w w' : World} {e : Ending} (h : EdtE q4 dR (setF sA s3) w e w') : e = .returned (.tuple #[.slice none 0 0, digV zD, .int .i64 7]) ∧ Below w.heap.size w w' := by
  obtain ⟨h, hb⟩ := h
  refine ⟨?_, hb⟩
  have hpa : pathB sA = true := by decide +kernel
  have hset : setF sA s3 awL = (0, withF awL (sA, s3)) := by unfold setF; rw [if_pos hpa]
  have hdat : ∀ f ∈ withF awL (sA, s3), f.2.size ≤ 60000 := fun f hf => by
    rcases mem_withF.1 hf with ⟨h1, _⟩ | rfl
    · exact okAw.data f h1
    · decide
  have hno : ¬ TckR (withF awL (sA, s3)) 0 := fun h0 => by
    have := (ck_ok h0 hdat).1.nob (sA, s3) (mem_withF.2 (.inr rfl)) (sAX, s1) (mem_withF.2 (.inl ⟨by unfold awL; simp, by decide +kernel⟩))
    have h2 : belB sA sAX = true := by decide +kernel
    rw [h2] at this; cases this
  rcases h with ⟨err, h1, _⟩ | ⟨fs, h1, h2⟩
  · exact (ld_not ldAw h1).elim
  · have := ld_uniq h1 ldAw
    subst this
    rw [hset] at h2
    rcases h2 with ⟨h3, _⟩ | ⟨_, ⟨z, h4, h5, rfl⟩ | ⟨h4, _⟩⟩
    · exact absurd rfl h3
    · rcases ck_with okAw ascAw (by decide) hpa h4 with h6 | h6
      · exact absurd h6 h5
      · rw [h6]
    · exact absurd h4 hno
theorem aw_getX : gtR q4 dR sAX = (s1, 0) := (std_gtR plAw okAw stdAw (by decide +kernel)).1 s1 (by unfold awL; simp)
theorem aw_getA : (gtR q4 dR sA).2 = 9 := by
  obtain ⟨es, h1, h2, h3⟩ := stdAw
  have hes : OkEs es := okO_tree (o := treeO es) (getP_ok plAw h1) rfl
  have hm : sA ∈ es.map Ent.nm := by rw [h2, nm1]; simp
  obtain ⟨e, he, hen⟩ := List.mem_map.1 hm
  have hent : entN (treeO es).ents (fsN sA) = some e := by
    have : fsN sA = sA := by decide +kernel
    rw [this, ← hen]; exact entN_mem hes he
  have hd : e.dir ≠ deN sA := by
    have h4 : deN sA = false := by decide +kernel
    rw [h4]
    rcases h3 e he with ⟨a, b, c, f⟩ | ⟨a, _⟩
    · rw [hen] at c
      have := (look9_some okAw.nod).2 c
      have h5 : lookF9 awL sA = none := by decide +kernel
      rw [h5] at this; cases this
    · rw [a]; simp
  unfold gtR
  rw [if_pos (by decide +kernel)]
  have hl : (splitS (bl sA)).length = 0 + 1 := by decide +kernel
  rw [hl, getF_dir h1 rfl hent hd]
end Go.Proofs.YtmdhlkkekidknaaGreatDoor

namespace Go.Proofs.YtmdhlkkekidknaaGreatDoor
open Go.RowKit

@[go_sem] theorem guardIt : Tryz.prog.eqGuardType Tryz.prog.depth 38 = false := by kernel_rfl
theorem stoodIt : Tryz.prog.stoodInHeld 38 = false := by kernel_rfl
theorem eqDg1 (a b c d : Int) (w : World) : (Op.equalIn 9999 30 (.agg #[.int .u64 a, .int .u64 b]) (.agg #[.int .u64 c, .int .u64 d])).run Tryz.prog w = .ok (a == c && b == d) w := eqDig0 9997 a b c d w
@[go_sem high] theorem eqIt (a b c d : Int) (s t : ByteArray) (w : World) : (Op.equalIn 10000 38 (.agg #[.int .u64 a, .int .u64 b, .string s]) (.agg #[.int .u64 c, .int .u64 d, .string t])).run Tryz.prog w = .ok ((a == c && b == d) && s.toList == t.toList) w := by
  have hS : Tryz.prog.underlying 38 = some (.struct (Tryz.prog.fieldsOf 38)) := by kernel_rfl
  have a9 := Tryz.isAgg9
  have u9 := Tryz.underlying9
  have aD := Tryz.isAgg30
  have uD := Tryz.underlying30
  have zD := Tryz.sizeOf30
  have hd := eqDg1 a b c d w
  rw [show (10000 : Nat) = 9999 + 1 from rfl, run_equalIn_agg w 9999 38 _ _ hS stoodIt]
  simp only [Program.fieldsOf, Tryz.underlying38]
  go_simp
  by_cases h1 : a = c <;> by_cases h2 : b = d <;> by_cases h3 : s.toList = t.toList <;> simp [h1, h2, h3]
instance : DecidableEq FCh := fun a b => decidable_of_iff (a.path = b.path ∧ a.ho = b.ho ∧ a.hn = b.hn ∧ a.old = b.old ∧ a.new = b.new) ⟨fun h => by cases a; cases b; simp_all, fun h => by subst h; simp⟩
@[go_sem] theorem guardFC : Tryz.prog.eqGuardType Tryz.prog.depth 112 = false := by kernel_rfl
theorem stoodFC : Tryz.prog.stoodInHeld 112 = false := by kernel_rfl
@[go_sem high] theorem eqFC (s s' o o' n n' : ByteArray) (a a' b b' : Bool) (w : World) : (Op.equalIn 10000 112 (.agg #[.string s, .bool a, .bool b, .string o, .string n]) (.agg #[.string s', .bool a', .bool b', .string o', .string n'])).run Tryz.prog w = .ok (s.toList == s'.toList && (a == a' && (b == b' && (o.toList == o'.toList && n.toList == n'.toList)))) w := by
  have hS : Tryz.prog.underlying 112 = some (.struct (Tryz.prog.fieldsOf 112)) := by kernel_rfl
  have a9 := Tryz.isAgg9
  have u9 := Tryz.underlying9
  have a4 := Tryz.isAgg4
  have u4 := Tryz.underlying4
  rw [show (10000 : Nat) = 9999 + 1 from rfl, run_equalIn_agg w 9999 112 _ _ hS stoodFC]
  simp only [Program.fieldsOf, Tryz.underlying112]
  go_simp
  by_cases h1 : s.toList = s'.toList <;> by_cases h2 : a = a' <;> by_cases h3 : b = b' <;> by_cases h4 : o.toList = o'.toList <;> by_cases h5 : n.toList = n'.toList <;> simp [h1, h2, h3, h4, h5]
set_option maxRecDepth 100000 in
set_option maxHeartbeats 1000000 in
theorem same9_any (A0 A1 : Option Addr) (n0 c0 n1 c1 B : Nat) (rs qs : List Fl) (w : World) (h0 : Sl w B 2 A0 n0 (flat flC rs)) (h1 : Sl w B 2 A1 n1 (flat flC qs)) (m0 : n0 ≤ maxLen) :
    Calls Tryz.prog 24 #[.slice A0 n0 c0, .slice A1 n1 c1] w fun e w' => e = .returned (.bool (decide (rs = qs))) ∧ ∃ k, w' = w.drewN k := by
  unfold maxLen at m0
  have HL0 := Lib.hid (h0.len flC_len (by omega))
  have HL1 := Lib.hid (h1.len flC_len (by omega))
  have H0 := Lib.hid h0; have H1 := Lib.hid h1; clear h0 h1
  have hM : Hid (decide (rs = qs) = true ↔ rs = qs) := decide_eq_true_iff
  generalize decide (rs = qs) = mb at *
  by_cases hn : n0 = n1
  · subst hn
    go_enter Tryz.func24, Tryz.ntmps24
    go_wp2
    go_loopw [5] (fun i wr => ∃ k nq : Nat, k ≤ n0 ∧ i = .int .i64 k ∧ wr = w.drewN nq ∧ Hid (rs.take k = qs.take k)) (fun i _ => n0 - (intOf i).toNat)
    case atStart => exact ⟨0, 0, Nat.zero_le _, rfl, rfl, rfl⟩
    case round =>
      obtain ⟨k, nq, hk, rfl, rfl, heq⟩ := hrel
      by_cases hlt : k < n0
      · obtain ⟨b0, o0, r, rfl, _, hr, x0, x1⟩ := H0.out.fl hlt
        obtain ⟨b1, o1, q, rfl, _, hq, y0, y1⟩ := H1.out.fl hlt
        have HR := Lib.hid hr; have HQ := Lib.hid hq; clear hr hq
        have hlz : (k : Int) < (n0 : Int) := by omega
        by_cases e : r = q
        · have t1 : (r.1.toList == q.1.toList && r.2.toList == q.2.toList) = true := by rw [e]; simp
          have HE := Lib.hid e; clear e
          have hnx : Hid (rs.take (k + 1) = qs.take (k + 1)) := by
            show _ = _
            rw [take_snoc HR.out, take_snoc HQ.out, heq.out, HE.out]
          go_wp2
          go_quiet (fail)
          go_wp2
          go_roundw
          case rel => exact ⟨k + 1, _, by omega, by go_num, rfl, hnx⟩
          case measure => simp [intOf]; omega
        · have t1 : (r.1.toList == q.1.toList && r.2.toList == q.2.toList) = false := by
            rw [Bool.eq_false_iff]; intro hh
            simp only [Bool.and_eq_true, beq_iff_eq, ByteArray.toList_eq] at hh
            apply e
            exact Prod.ext (data_inj hh.1) (data_inj hh.2)
          have HE := Lib.hid e; clear e
          go_wp2
          go_quiet (fail)
          go_wp2
          go_ret
          refine ⟨ret_bool ?_, ⟨_, World.drewN_drewN _ _ _⟩⟩
          symm
          rw [Bool.eq_false_iff]
          intro hh
          have := hM.out.1 hh
          subst this
          exact HE.out (Option.some.inj (HR.out.symm.trans HQ.out))
      · have hall : Hid (mb = true) := by
          have := heq.out
          rw [List.take_of_length_le (by rw [HL0.out]; omega), List.take_of_length_le (by rw [HL1.out]; omega)] at this
          exact hM.out.2 this
        have hlz : ¬ (k : Int) < (n0 : Int) := by omega
        go_wp2
        go_ret
        exact ⟨ret_bool hall.out.symm, _, rfl⟩
  · have hne : ((n0 : Int) != (n1 : Int)) = true := by rw [bne_iff_ne]; omega
    go_enter Tryz.func24, Tryz.ntmps24
    go_wp2
    go_ret
    refine ⟨ret_bool ?_, 0, rfl⟩
    symm
    rw [Bool.eq_false_iff]
    intro hh
    have := hM.out.1 hh
    subst this
    exact hn (HL0.out.symm.trans HL1.out)

end Go.Proofs.YtmdhlkkekidknaaGreatDoor

namespace Go.Proofs.YtmdhlkkekidknaaGreatDoor
open Go.RowKit

theorem res_fl {fn : Func} {c : Tmp} (h : fn.results = #[.cell c 68]) {w : World} {a : Array Value} {b : Nat} {x0 x1 : Value} (ha : a[c]?.getD undef = .pointer (some ⟨b, 0, none⟩)) (hk : Bk w b 68 #[x0, x1]) :
    (results fn a).run Tryz.prog w = .ok (.agg #[x0, x1]) w := by
  obtain ⟨h0, h1, _⟩ := hk.two
  simp [results, h, ha, go_sem, h0, h1]
set_option maxRecDepth 100000 in
set_option maxHeartbeats 1000000 in
theorem lfile_any (a b : ByteArray) (w : World) : Calls Tryz.prog 44 #[.string a, .string b] w fun e w' => e = .returned (.agg #[.string a, .string b]) ∧ Below w.heap.size w w' := by
  have HB : Hid (Below w.heap.size w (w.alloc (.cells #[.string a, .string b] 68))) := (Below.refl _ w).alloc (Nat.le_refl _) _
  have HK : Hid (Bk (w.alloc (.cells #[.string a, .string b] 68)) w.heap.size 68 #[.string a, .string b]) := Bk.new w _ _
  go_enter Tryz.func44, Tryz.ntmps44
  go_wp2_with fail
  refine bodyPost_ret (res_fl Tryz.results44 rfl HK.out) rfl ⟨rfl, HB.out⟩
def LawE (w : World) (e : Ending) (w' : World) : Prop := e = .returned (.bool true) ∧ Below w.heap.size w w'
set_option maxRecDepth 100000 in
set_option maxHeartbeats 8000000 in
theorem awake_any (w : World) : Calls Tryz.prog 14 #[] w (LawE w) := by
  have HF1 := fun W => lfile_any sAX s1 W
  have HF2 := fun W => lfile_any sB s2 W
  unfold sAX s1 at HF1
  unfold sB s2 at HF2
  unfold LawE
  go_enter Tryz.func14, Tryz.ntmps14
  go_wp2_with fail
  refine (HF1 _).mono ?_
  rintro e w1 ⟨rfl, hb1⟩
  have HB1 := Lib.hid hb1
  clear hb1
  go_wp2_with fail
  refine (HF2 _).mono ?_
  rintro e w2 ⟨rfl, hb⟩
  have HB2 : Hid (Below w.heap.size w w2) := HB1.out.trans (hb.mono HB1.out.size)
  clear hb HB1 HF1 HF2
  obtain ⟨W3, hW3⟩ : ∃ W3, w2.alloc (.cells #[.string ⟨#[97, 47, 120]⟩, .string ⟨#[49]⟩, .string ⟨#[98]⟩, .string ⟨#[50]⟩] 68) = W3 := ⟨_, rfl⟩
  have HB3 : Hid (Below w.heap.size w W3) := by rw [← hW3]; exact HB2.out.alloc HB2.out.size _
  have HS3 : Hid (Sl W3 W3.heap.size 2 (some ⟨w2.heap.size, 0, none⟩) 2 (flat flC awL)) := by
    rw [← hW3]; exact Sl.of_bk (n := 2) (size := 2) (Bk.new w2 _ _) rfl
  have HST := Lib.hid (tstore_any none 0 0 W3.heap.size [] (some ⟨w2.heap.size, 0, none⟩) 2 2 awL W3 ⟨rfl, fun h => absurd h (Nat.lt_irrefl 0)⟩ HS3.out (Nat.le_refl _) (Nat.le_refl _) (Nat.zero_le _) (Nat.zero_le _) (by omega) PlOk.nil (fun f hf => ⟨Nat.le_trans (path_len (okAw.path f hf)) (by omega), okAw.data f hf⟩))
  have HW3 := Lib.hid hW3
  clear hW3
  go_wp2_with fail
  rw [HW3.out]
  refine HST.out.mono ?_
  rintro e w4 hst
  obtain ⟨A4, c4, rfl, hs4, hc4, hm4, hb⟩ := aw_store hst
  have HS4 := Lib.hid hs4
  have HB4 : Hid (Below w.heap.size w w4) := HB3.out.trans (hb.mono HB3.out.size)
  have HL4 := Lib.hid (sl_on HS3.out hb)
  clear hst hs4 hb HST HB3 HS3
  obtain ⟨⟨d1, d2⟩, hd⟩ : ∃ d, dR = d := ⟨_, rfl⟩
  have HD := Lib.hid hd
  rw [hd]
  simp only [digV]
  clear hd
  obtain ⟨W5, hW5⟩ : ∃ W5, w4.alloc (.cells #[.int .u64 d1, .int .u64 d2] 30) = W5 := ⟨_, rfl⟩
  have hb5 : Below w4.heap.size w4 W5 := by rw [← hW5]; exact (Below.refl _ w4).alloc (Nat.le_refl _) _
  have HB5 : Hid (Below w.heap.size w W5) := HB4.out.trans (hb5.mono HB4.out.size)
  have HK5 : Hid (Bk W5 w4.heap.size 30 #[.int .u64 d1, .int .u64 d2]) := by rw [← hW5]; exact Bk.new w4 _ _
  have HP5 := Lib.hid (sl_on HS4.out hb5)
  have HL5 := Lib.hid (sl_on HL4.out hb5)
  have hsz : ∀ i ∈ q4, i.2.size ≤ 60000 := by decide +kernel
  have HSZ := Lib.hid hsz
  have HC := Lib.hid (tload_any A4 4 c4 W5.heap.size q4 (d1, d2) W5 HP5.out (Nat.le_refl _) (by omega) plAw)
  simp only [digV] at HC
  have HW5 := Lib.hid hW5
  obtain ⟨x0, x1, _, _⟩ := HK5.out.two
  rw [← hW5] at x0 x1
  clear hW5 hb5 hsz HS4 HL4 HB4
  go_wp2_with fail
  rw [HW5.out]
  refine HC.out.mono ?_
  rintro e w6 hld
  obtain ⟨A6, c6, rfl, hs6, hb⟩ := aw_load (by rw [HD.out]; exact hld)
  have HS6 := Lib.hid hs6
  have HB6 : Hid (Below w.heap.size w w6) := HB5.out.trans (hb.mono HB5.out.size)
  have HK6 := Lib.hid (HK5.out.below hb HK5.out.lt)
  have HP6 := Lib.hid (sl_on HP5.out hb)
  have HL6 := Lib.hid (sl_on HL5.out hb)
  clear hld hs6 hb HC HK5 HP5 HL5 HB5 x0 x1 HW5
  obtain ⟨x0, x1, _, _⟩ := HK6.out.two
  have HC := Lib.hid (tset_any A4 4 c4 w6.heap.size q4 (d1, d2) sA s3 w6 HP6.out (Nat.le_refl _) hc4 hm4 (by omega) plAw HSZ.out (by decide) (by decide))
  unfold sA s3 at HC
  simp only [digV] at HC
  go_wp2_with fail
  refine HC.out.mono ?_
  rintro e w7 hst
  obtain ⟨rfl, hb⟩ := aw_set (w := w6) (e := e) (w' := w7) (by rw [HD.out]; exact hst)
  have HB7 : Hid (Below w.heap.size w w7) := HB6.out.trans (hb.mono HB6.out.size)
  have HK7 := Lib.hid (HK6.out.below hb HK6.out.lt)
  have HP7 := Lib.hid (sl_on HP6.out hb)
  have HL7 := Lib.hid (sl_on HL6.out hb)
  have HS7 := Lib.hid (sl_on HS6.out hb)
  clear hst hb HC HK6 HP6 HL6 HB6 HS6 x0 x1
  simp only [digV, zD]
  obtain ⟨x0, x1, _, _⟩ := HK7.out.two
  obtain ⟨W8, hW8⟩ : ∃ W8, w7.alloc (.cells #[.int .u64 0, .int .u64 0] 30) = W8 := ⟨_, rfl⟩
  have hb8 : Below w7.heap.size w7 W8 := by rw [← hW8]; exact (Below.refl _ w7).alloc (Nat.le_refl _) _
  have HB8 : Hid (Below w.heap.size w W8) := HB7.out.trans (hb8.mono HB7.out.size)
  have HK8 := Lib.hid (HK7.out.below hb8 HK7.out.lt)
  have HP8 := Lib.hid (sl_on HP7.out hb8)
  have HL8 := Lib.hid (sl_on HL7.out hb8)
  have HS8 := Lib.hid (sl_on HS7.out hb8)
  obtain ⟨y0, y1, _, _⟩ := HK8.out.two
  rw [← hW8] at y0 y1
  have HC := Lib.hid (tget_any A4 4 c4 W8.heap.size q4 (d1, d2) sA W8 HP8.out (Nat.le_refl _) (by omega) plAw (by decide))
  unfold TgE sA at HC
  obtain ⟨⟨g1, g2⟩, hg⟩ : ∃ g, gtR q4 (d1, d2) ⟨#[97]⟩ = g := ⟨_, rfl⟩
  have hg9 : g2 = 9 := by
    have := aw_getA
    rw [HD.out] at this
    unfold sA at this
    rw [hg] at this; exact this
  subst hg9
  rw [hg] at HC
  simp only [digV] at HC
  have HW8 := Lib.hid hW8
  clear hW8 hb8 hg HK7 HP7 HL7 HS7 HB7
  go_wp2_with fail
  rw [HW8.out]
  refine HC.out.mono ?_
  rintro e w9 ⟨rfl, hb⟩
  have HB9 : Hid (Below w.heap.size w w9) := HB8.out.trans (hb.mono HB8.out.size)
  have HK9 := Lib.hid (HK8.out.below hb HK8.out.lt)
  have HP9 := Lib.hid (sl_on HP8.out hb)
  have HL9 := Lib.hid (sl_on HL8.out hb)
  have HS9 := Lib.hid (sl_on HS8.out hb)
  clear hb HC HK8 HP8 HL8 HS8 HB8 x0 x1 y0 y1 HW8
  obtain ⟨x0, x1, _, _⟩ := HK9.out.two
  have HC := Lib.hid (tget_any A4 4 c4 w9.heap.size q4 (d1, d2) sAX w9 HP9.out (Nat.le_refl _) (by omega) plAw (by decide))
  have hgx := aw_getX
  rw [HD.out] at hgx
  unfold TgE at HC
  rw [hgx] at HC
  unfold sAX s1 at HC
  simp only [digV] at HC
  clear hgx
  go_wp2_with fail
  refine HC.out.mono ?_
  rintro e w10 ⟨rfl, hb⟩
  have HB10 : Hid (Below w.heap.size w w10) := HB9.out.trans (hb.mono HB9.out.size)
  have HL10 := Lib.hid (sl_on HL9.out hb)
  have HS10 := Lib.hid (sl_on HS9.out hb)
  have HC := Lib.hid (same9_any (some ⟨w2.heap.size, 0, none⟩) A6 2 2 2 c6 w10.heap.size awL awL w10 HL10.out HS10.out (by unfold maxLen; omega))
  have hdec : decide (awL = awL) = true := by simp
  rw [hdec] at HC
  clear hb hdec HK9 HP9 HL9 HS9 HB9 x0 x1
  go_wp2_with fail
  refine HC.out.mono ?_
  rintro e w11 ⟨rfl, k, rfl⟩
  have HB11 := Lib.hid (below_drewN HB10.out k)
  clear HC HB10 HL10 HS10
  go_wp2_with fail
  go_ret
  exact ⟨rfl, HB11.out⟩
end Go.Proofs.YtmdhlkkekidknaaGreatDoor

namespace Go.Proofs.YtmdhlkkekidknaaGreatDoor
open Go.RowKit Go.Maps

def Gr9End (n : Nat) (fs : List Fl) (w : World) (e : Ending) (w' : World) : Prop := ∃ r : Bool, e = .returned (.bool r) ∧ (r = false → n ≤ 10 ∧ ∀ f ∈ fs, f.1.size ≤ 120 ∧ f.2.size ≤ 200) ∧ w = w'
set_option maxRecDepth 100000 in
set_option maxHeartbeats 2000000 in
theorem great9_any (A : Option Addr) (n c B : Nat) (fs : List Fl) (w : World) (h0 : Sl w B 2 A n (flat flC fs)) (hn : n ≤ maxLen) (hs : ∀ f ∈ fs, f.1.size ≤ maxLen ∧ f.2.size ≤ maxLen) :
    Calls Tryz.prog 13 #[.slice A n c] w (Gr9End n fs w) := by
  unfold maxLen at hn
  have HL0 := Lib.hid (h0.len flC_len (by omega))
  have H0 := Lib.hid h0; clear h0
  have HS := Lib.hid hs; clear hs
  go_enter Tryz.func13, Tryz.ntmps13
  by_cases hbig : (10 : Int) < (n : Int)
  · go_wp2
    go_ret
    exact ⟨true, rfl, (fun e => by cases e), rfl⟩
  go_wp2
  go_loopw [3] (fun i wr => ∃ k : Nat, k ≤ n ∧ i = .int .i64 k ∧ wr = w ∧ Hid (∀ f ∈ fs.take k, f.1.size ≤ 120 ∧ f.2.size ≤ 200)) (fun i _ => n - (intOf i).toNat)
  case atStart => exact ⟨0, Nat.zero_le _, rfl, rfl, fun y hy => by simp at hy⟩
  case round =>
    obtain ⟨k, hk, rfl, rfl, hN⟩ := hrel
    by_cases hlt : k < n
    · obtain ⟨b, off, f, rfl, hb, hf, y0, y1⟩ := H0.out.fl hlt
      have hkz : (k : Int) < (n : Int) := by omega
      have hfs := HS.out f (List.mem_of_getElem? hf)
      have hf1 : f.1.size ≤ 9223372036854775807 := by have := hfs.1; unfold maxLen at this; exact this
      have hf2 : f.2.size ≤ 9223372036854775807 := by have := hfs.2; unfold maxLen at this; exact this
      have HF := Lib.hid hf; clear hf hfs
      by_cases c1 : (120 : Int) < (f.1.size : Int)
      · go_wp2
        go_ret
        exact ⟨true, rfl, (fun e => by cases e), rfl⟩
      by_cases c2 : (200 : Int) < (f.2.size : Int)
      · go_wp2
        go_ret
        exact ⟨true, rfl, (fun e => by cases e), rfl⟩
      have HN : Hid (∀ f ∈ fs.take (k + 1), f.1.size ≤ 120 ∧ f.2.size ≤ 200) := fun y hy => by
        rw [take_snoc HF.out] at hy
        rcases List.mem_append.1 hy with hy | hy
        · exact hN.out y hy
        · rw [List.mem_singleton.1 hy]; exact ⟨by omega, by omega⟩
      go_wp2
      go_roundw
      case rel => exact ⟨k + 1, hlt, by go_num, trivial, HN.out⟩
      case measure => simp [intOf]; omega
    · have hkz : ¬ (k : Int) < (n : Int) := by omega
      have HN : Hid (∀ f ∈ fs, f.1.size ≤ 120 ∧ f.2.size ≤ 200) := by
        have := hN.out
        rwa [List.take_of_length_le (by rw [HL0.out]; omega)] at this
      go_wp2
      go_ret
      exact ⟨false, rfl, (fun _ => ⟨by omega, HN.out⟩), rfl⟩
end Go.Proofs.YtmdhlkkekidknaaGreatDoor

namespace Go.Proofs.YtmdhlkkekidknaaGreatDoor
open Go.RowKit

theorem same9B_any (A0 A1 : Option Addr) (n0 c0 n1 c1 B : Nat) (rs qs : List Fl) (w : World) (h0 : Sl w B 2 A0 n0 (flat flC rs)) (h1 : Sl w B 2 A1 n1 (flat flC qs)) (m0 : n0 ≤ maxLen) :
    Calls Tryz.prog 24 #[.slice A0 n0 c0, .slice A1 n1 c1] w fun e w' => e = .returned (.bool (decide (rs = qs))) ∧ Below w.heap.size w w' :=
  (same9_any A0 A1 n0 c0 n1 c1 B rs qs w h0 h1 m0).mono fun _ _ ⟨h, k, hk⟩ => ⟨h, by rw [hk]; exact below_drewN (Below.refl _ _) k⟩
end Go.Proofs.YtmdhlkkekidknaaGreatDoor

namespace Go.Proofs.YtmdhlkkekidknaaGreatDoor
open Go.RowKit

def PatV (l : List Fl) (c : List FCh) (m : List Fl) (err : Int) : Prop := (∃ m', PatR l c m' err ∧ err ≠ 0 ∧ m = []) ∨ (PatR l c m 0 ∧ err = 0)
theorem patR_err {l : List Fl} {c : List FCh} {m m' : List Fl} {x y : Int} (h : PatR l c m x) (g : PatR l c m' y) : x = y := by
  rcases h with ⟨z, h1, h2, h3⟩ | ⟨h1, h2⟩ <;> rcases g with ⟨z', g1, g2, g3⟩ | ⟨g1, g2⟩
  · rw [h3, g3]; exact TckR.same h1 g1
  · exact absurd (TckR.same h1 g1) h2
  · exact absurd (TckR.same g1 h1) g2
  · rcases h2 with ⟨a, b⟩ | ⟨a, b⟩ <;> rcases g2 with ⟨a', b'⟩ | ⟨a', b'⟩
    · rw [b, b']
    · exact absurd a' a
    · exact absurd a a'
    · rcases b with ⟨z, b1, b2, b3⟩ | ⟨b1, b2, _⟩ <;> rcases b' with ⟨z', c1, c2, c3⟩ | ⟨c1, c2, _⟩
      · rw [b3, c3]; exact TckR.same b1 c1
      · exact absurd (TckR.same b1 c1) b2
      · exact absurd (TckR.same c1 b1) c2
      · rw [b2, c2]
theorem patR_m {l : List Fl} {c : List FCh} {m m' : List Fl} (h : PatR l c m 0) (g : PatR l c m' 0) : m = m' := by
  have key : ∀ {m : List Fl}, PatR l c m 0 → m = (patW l l none c).1 := fun {m} h => by
    rcases h with ⟨z, _, h2, h3⟩ | ⟨_, ⟨a, b⟩ | ⟨_, ⟨z, _, b2, b3⟩ | ⟨_, _, b3⟩⟩⟩
    · exact absurd h3.symm h2
    · exact absurd b.symm a
    · exact absurd b3.symm b2
    · exact b3
  rw [key h, key g]
theorem PatV.uniq {l : List Fl} {c : List FCh} {m m' : List Fl} {x y : Int} (h : PatV l c m x) (g : PatV l c m' y) : m = m' ∧ x = y := by
  rcases h with ⟨a, h1, h2, h3⟩ | ⟨h1, h2⟩ <;> rcases g with ⟨b, g1, g2, g3⟩ | ⟨g1, g2⟩
  · exact ⟨by rw [h3, g3], patR_err h1 g1⟩
  · exact absurd (patR_err h1 g1) h2
  · exact absurd (patR_err g1 h1) g2
  · exact ⟨patR_m h1 g1, by rw [h2, g2]⟩
theorem pat_oneV {l : List Fl} {c : List FCh} {w w' : World} {e : Ending} (h : PtE l c w e w') :
    (∃ m err A cap, PatV l c m err ∧ e = .returned (.tuple #[.slice A m.length cap, .int .i64 err]) ∧ Sl w' w'.heap.size 2 A m.length (flat flC m) ∧ m.length ≤ maxLen) ∧ Below w.heap.size w w' := by
  obtain ⟨⟨m, err, h1, h2⟩, hb⟩ := h
  refine ⟨?_, hb⟩
  rcases h2 with ⟨h2, rfl⟩ | ⟨rfl, A, cap, rfl, h3, h4, h5⟩
  · exact ⟨[], err, none, 0, .inl ⟨m, h1, h2, rfl⟩, rfl, Sl.nil _ _ _ _, Nat.zero_le _⟩
  · exact ⟨m, 0, A, cap, .inr ⟨h1, rfl⟩, rfl, h3, Nat.le_trans h4 h5⟩
set_option maxRecDepth 100000 in
set_option maxHeartbeats 32000000 in
theorem lawLis9_any (A1 A2 : Option Addr) (n1 c1 n2 c2 : Nat) (fs : List Fl) (cs : List FCh) (w : World) (h1 : Sl w w.heap.size 2 A1 n1 (flat flC fs)) (h2 : Sl w w.heap.size 5 A2 n2 (flat fcC cs)) (m1 : n1 ≤ maxLen) (m2 : n2 ≤ maxLen) (s1 : ∀ f ∈ fs, f.1.size ≤ maxLen ∧ f.2.size ≤ maxLen) (s2 : ∀ x ∈ cs, x.path.size ≤ maxLen ∧ x.old.size ≤ maxLen ∧ x.new.size ≤ maxLen) :
    Calls Tryz.prog 10 #[.slice A1 n1 c1, .slice A2 n2 c2] w (LawE w) := by
  have H1 := Lib.hid h1; have H2 := Lib.hid h2
  have HG1 := Lib.hid (great9_any A1 n1 c1 w.heap.size fs w h1 m1 s1)
  have HG2 := Lib.hid (greatC_any A2 n2 c2 w.heap.size cs w h2 m2 s2)
  unfold Gr9End at HG1
  unfold GcE at HG2
  have HAW := Lib.hid awake_any
  unfold LawE at HAW ⊢
  have awk : Hid (∀ W, Below w.heap.size w W → Calls Tryz.prog 14 #[] W fun e w' => e = .returned (.bool true) ∧ Below w.heap.size w w') := fun W hW => (HAW.out W).mono fun e w' ⟨h1, h2⟩ => ⟨h1, hW.trans (h2.mono hW.size)⟩
  have HB : Hid (Below w.heap.size w w) := Below.refl _ _
  clear h1 h2 s1 s2 m1 m2
  go_enter Tryz.func10, Tryz.ntmps10
  go_wp2_with fail
  refine HG1.out.mono ?_
  rintro e w1 ⟨r, rfl, hr, rfl⟩
  have HR1 := Lib.hid hr
  clear hr HG1
  cases r with
  | true =>
    clear HR1 HG2
    go_wp2_with fail
    refine (awk.out _ (HB.out)).mono ?_
    rintro e wz ⟨rfl, hb⟩
    have HBZ := Lib.hid hb; clear hb
    go_wp2_with fail
    go_ret
    exact ⟨rfl, HBZ.out⟩
  | false =>
    obtain ⟨hn1, hf1⟩ := HR1.out rfl
    have HF1 := Lib.hid hf1
    clear hf1 HR1
    go_wp2_with fail
    refine HG2.out.mono ?_
    rintro e w1 ⟨r, rfl, hr, rfl⟩
    have HR2 := Lib.hid hr
    clear hr HG2
    cases r with
    | true =>
      clear HR2
      go_wp2_with fail
      refine (awk.out _ (HB.out)).mono ?_
      rintro e wz ⟨rfl, hb⟩
      have HBZ := Lib.hid hb; clear hb
      go_wp2_with fail
      go_ret
      exact ⟨rfl, HBZ.out⟩
    | false =>
      obtain ⟨hn2, hf2⟩ := HR2.out rfl
      have HF2 := Lib.hid hf2
      have HS1 : Hid (∀ f ∈ fs, f.1.size ≤ 1000000 ∧ f.2.size ≤ 60000) := fun f hf => ⟨by have := (HF1.out f hf).1; omega, by have := (HF1.out f hf).2; omega⟩
      have HS2 : Hid (∀ x ∈ cs, x.path.size ≤ 1000000 ∧ x.new.size ≤ 60000) := fun x hx => ⟨by have := (HF2.out x hx).1; omega, by have := (HF2.out x hx).2.2; omega⟩
      clear hf2 HR2
      have HC := Lib.hid (tpatch_any A1 A2 n1 c1 n2 c2 w.heap.size fs cs w H1.out H2.out (Nat.le_refl _) (by omega) (by omega) HS1.out HS2.out)
      go_wp2_with fail
      refine HC.out.mono ?_
      rintro e w2 hst
      obtain ⟨⟨m, err, A3, c3, hv, rfl, hsl, hml⟩, hb⟩ := pat_oneV hst
      have HPV := Lib.hid hv; have HL := Lib.hid hsl; have HML := Lib.hid hml
      replace HB : Hid (Below w.heap.size w w2) := HB.out.trans (hb.mono HB.out.size)
      replace H1 := Lib.hid (sl_on H1.out hb)
      replace H2 := Lib.hid (sl_on H2.out hb)
      clear hb
      clear HC hv hsl hml
      have HC := Lib.hid (rpatch9_any A1 n1 c1 A2 n2 c2 w2.heap.size fs cs w2 H1.out H2.out (Nat.le_refl _) (by omega) (by omega) HS1.out HS2.out)
      go_wp2_with fail
      refine HC.out.mono ?_
      rintro e w3 hst
      obtain ⟨⟨m', err', A4, c4, hv, rfl, hsl, _⟩, hb⟩ := pat_oneV hst
      obtain ⟨rfl, rfl⟩ := HPV.out.uniq hv
      have HM := Lib.hid hsl
      replace HB : Hid (Below w.heap.size w w3) := HB.out.trans (hb.mono HB.out.size)
      replace H1 := Lib.hid (sl_on H1.out hb)
      replace HL := Lib.hid (sl_on HL.out hb)
      clear hb
      clear HC hv hsl
      have HC := Lib.hid (tcheck_any A1 n1 c1 w3.heap.size fs w3 H1.out (Nat.le_refl _) (by omega) HS1.out)
      go_wp2_with fail
      refine HC.out.mono ?_
      rintro e w4 ⟨z, rfl, hz, hb⟩
      have HZ := Lib.hid hz
      replace HB : Hid (Below w.heap.size w w4) := HB.out.trans (hb.mono HB.out.size)
      replace H1 := Lib.hid (sl_on H1.out hb)
      replace HL := Lib.hid (sl_on HL.out hb)
      replace HM := Lib.hid (sl_on HM.out hb)
      clear hb
      clear HC hz
      have HC := Lib.hid (check9_any A1 n1 c1 w4.heap.size fs w4 H1.out (Nat.le_refl _) (by omega) HS1.out)
      go_wp2_with fail
      refine HC.out.mono ?_
      rintro e w5 ⟨z', rfl, hz, hb⟩
      have hzz : z = z' := TckR.same HZ.out hz
      subst hzz
      replace HB : Hid (Below w.heap.size w w5) := HB.out.trans (hb.mono HB.out.size)
      replace HL := Lib.hid (sl_on HL.out hb)
      replace HM := Lib.hid (sl_on HM.out hb)
      clear hb
      clear HC hz H1
      have HC := Lib.hid (same9B_any A3 A4 m.length c3 m.length c4 w5.heap.size m m w5 HL.out HM.out HML.out)
      rw [decide_eq_true rfl] at HC
      have t1 : (z == z) = true := by simp
      have t2 : (err == err) = true := by simp
      go_wp2_with fail
      refine HC.out.mono ?_
      rintro e w6 ⟨rfl, hb⟩
      replace HB : Hid (Below w.heap.size w w6) := HB.out.trans (hb.mono HB.out.size)
      clear hb
      clear HC HL HM
      go_wp2_with fail
      refine (awk.out _ (HB.out)).mono ?_
      rintro e wz ⟨rfl, hb⟩
      have HBZ := Lib.hid hb; clear hb
      go_wp2_with fail
      go_ret
      exact ⟨rfl, HBZ.out⟩
end Go.Proofs.YtmdhlkkekidknaaGreatDoor

namespace Go.Proofs.YtmdhlkkekidknaaGreatDoor
open Go.ChangeShapes Go.WideShapes Go.ChangeAt Go.RowKit Go.Joins Go.Deep

theorem cellsFC : Tryz.prog.cellsOf 112 = 5 := by kernel_rfl
theorem cellsBl : Tryz.prog.cellsOf 4 = 1 := by kernel_rfl
theorem len5 {α : Type} {l : List α} (h : l.length = 5) : ∃ a b c d e, l = [a, b, c, d, e] := by
  match l, h with
  | [a, b, c, d, e], _ => exact ⟨a, b, c, d, e, rfl⟩
section
variable {H : Type} {enc : TypeId × Value → H} {P : Program} {w : World} {base : Nat} {spare : Nat → Bool} {held : Bool} {fuel : Nat} {cs : List Value} {x : DataW H × List MemPlace}
theorem trod_fcP {t s u : TypeId} {f0 f1 f2 f3 f4 : Field} (ht : P.underlying t = some (.struct #[f0, f1, f2, f3, f4])) (o0 : f0.offset = 0) (o1 : f1.offset = 1) (o2 : f2.offset = 2) (o3 : f3.offset = 3) (o4 : f4.offset = 4)
    (t0 : f0.type = s) (t1 : f1.type = u) (t2 : f2.type = u) (t3 : f3.type = s) (t4 : f4.type = s) (hs : P.underlying s = some .string) (hu : P.underlying u = some .bool)
    (hC : P.cellsOf t = 5) (hcs : P.cellsOf s = 1) (hcu : P.cellsOf u = 1) (h : DataW.trod enc P w base spare held fuel t cs = some x) : ∃ f : FCh, cs = fcC f ∧ f.path.size ≤ maxLen ∧ f.old.size ≤ maxLen ∧ f.new.size ≤ maxLen := by
  obtain ⟨xs, m, _, _, hlen, hxl, hf⟩ := DataW.trod_struct ht h
  rw [hC] at hlen
  obtain ⟨c0, c1, c2, c3, c4, rfl⟩ := len5 hlen
  obtain ⟨y0, y1, y2, y3, y4, rfl⟩ := len5 hxl
  have h0 := hf 0 f0 rfl
  have h1 := hf 1 f1 rfl
  have h2 := hf 2 f2 rfl
  have h3 := hf 3 f3 rfl
  have h4 := hf 4 f4 rfl
  rw [o0, t0, hcs] at h0
  rw [o1, t1, hcu] at h1
  rw [o2, t2, hcu] at h2
  rw [o3, t3, hcs] at h3
  rw [o4, t4, hcs] at h4
  simp at h0 h1 h2 h3 h4
  obtain ⟨a, ha, _, hz⟩ := DataW.trod_string hs h0
  obtain ⟨b, hb, _⟩ := DataW.trod_bool hu h1
  obtain ⟨c, hc, _⟩ := DataW.trod_bool hu h2
  obtain ⟨d, hd, _, hz3⟩ := DataW.trod_string hs h3
  obtain ⟨e, he, _, hz4⟩ := DataW.trod_string hs h4
  simp at ha hb hc hd he
  exact ⟨⟨a, b, c, d, e⟩, by rw [ha, hb, hc, hd, he]; rfl, hz, hz3, hz4⟩
end
section
variable {H : Type} {enc : TypeId × Value → H} {W : World} {base : Nat} {v : Value} {d : DataW H} {p : List MemPlace} {r : Reach} {b0 : Nat} {sp : Nat → Bool} {held : Bool}
set_option maxRecDepth 100000 in
theorem open_chgs (hv : Value.okWide Tryz.prog W r b0 58 v) (h : DataW.Trod enc Tryz.prog W base sp held 58 v d p) : ∃ A n c fs, v = .slice A n c ∧ Sl W W.heap.size 5 A n (flat fcC fs) ∧ n ≤ c ∧ c ≤ maxLen ∧ ∀ f ∈ fs, f.path.size ≤ maxLen ∧ f.old.size ≤ maxLen ∧ f.new.size ≤ maxLen := by
  obtain ⟨A, n, c, rfl⟩ := okWide_slice Tryz.underlying58 hv
  obtain ⟨fuel, hf⟩ := h
  obtain ⟨A', n', c', us, he, h1, h2, h3, h4⟩ := trod_slP (encA := fcC) (Q := fun f => f.path.size ≤ maxLen ∧ f.old.size ≤ maxLen ∧ f.new.size ≤ maxLen) Tryz.underlying58 cellsFC (by omega) fcC_len (fun _ _ _ hh => trod_fcP Tryz.underlying112 rfl rfl rfl rfl rfl rfl rfl rfl rfl rfl Tryz.underlying9 Tryz.underlying4 cellsFC cellsStr cellsBl hh) hf
  refine ⟨A', n', c', us, ?_, h1, h2, h3, h4⟩
  have : [Value.slice A n c] = [Value.slice A' n' c'] := he
  simpa using this
end
end Go.Proofs.YtmdhlkkekidknaaGreatDoor
