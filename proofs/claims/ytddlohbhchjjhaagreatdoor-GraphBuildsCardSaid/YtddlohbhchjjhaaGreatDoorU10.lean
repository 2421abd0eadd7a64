/-
  Lemmas: What is loaded: its labels are different, and what Load answers is one thing; in plain Lean. The chapter's example, in plain Lean: the files of a <- b are loaded, the graph is valid, and what its functions answer. What Cycle returns is a ring, in plain Lean. What is true of what has been loaded, in plain Lean. graph.Load. graph.find by users, and graph.Users. The reference's Label. The reference's check of one rule: what may stand in Visible. Lists of a known length, taken apart.
-/
import Derived.Deep.QuietTactic
import Derived.BigQuiet
import Derived.RegionTactic
import Derived.BigRegion
import Derived.Test.YtddlohbhchjjhaaGreatDoorU9

namespace Go.Proofs.YtddlohbhchjjhaaGreatDoor
open Go.RowKit Go.Shelf

theorem at47 {s : ByteArray} {j : Nat} (hj : j < s.size) : ((s.data[j]!).toNat : Int) = 47 ↔ (bl s)[j]? = some 47 := by
  have hl : j < (bl s).length := by rw [bl_len]; exact hj
  have e : s.data[j]! = (bl s)[j] := by
    have hd : j < s.data.size := hj
    rw [getElem!_pos s.data j hd]; rfl
  rw [List.getElem?_eq_getElem hl, e, Option.some.injEq]
  constructor
  · intro h; apply UInt8.toNat_inj.1; have : (47 : UInt8).toNat = 47 := rfl; omega
  · intro h; rw [h]; rfl
theorem no47 {n : ByteArray} (h : namT n = true) (j : Nat) : (bl n)[j]? ≠ some 47 := by
  unfold namT at h
  rw [Bool.and_eq_true, Bool.not_eq_true', decide_eq_false_iff_not] at h
  have hi : Lib.indexByte n.data.toList 47 = -1 := by have := Lib.indexByte_ge n.data.toList 47; omega
  exact Lib.indexByte_none hi j
theorem bl_cat (a b : ByteArray) : bl (a ++ b) = bl a ++ bl b := by unfold bl; simp
theorem bl_inj {a b : ByteArray} (h : bl a = bl b) : a = b := data_inj h
theorem last_at {s : ByteArray} {k : Nat} (hk : (bl s)[k]? = some 47) (hn : ∀ j, k < j → (bl s)[j]? ≠ some 47) : Lib.lastIndexByte s 47 = (k : Int) := by
  have hks : k < s.size := by rw [← bl_len]; exact (List.getElem?_eq_some_iff.1 hk).1
  rcases Lib.lastIndexByte_spec s 47 with ⟨_, h⟩ | ⟨i, h1, h2, h3, h4⟩
  · exact absurd ((at47 hks).2 hk) (h k hks)
  · rcases Nat.lt_trichotomy i k with e | e | e
    · exact absurd ((at47 hks).2 hk) (h4 k e hks)
    · rw [h2, e]
    · exact absurd ((at47 h1).1 h3) (hn i e)
theorem last_no {s : ByteArray} (hn : ∀ j : Nat, (bl s)[j]? ≠ some 47) : Lib.lastIndexByte s 47 = -1 := by
  rcases Lib.lastIndexByte_spec s 47 with ⟨h, _⟩ | ⟨i, h1, h2, h3, h4⟩
  · exact h
  · exact absurd ((at47 h1).1 h3) (hn i)
theorem extract00 (s : ByteArray) : s.extract 0 0 = ⟨#[]⟩ := bl_inj (by unfold bl; rw [extract_list]; simp)
theorem bl_joi {d n : ByteArray} (h : d ≠ ⟨#[]⟩) : bl (joiS d n) = bl d ++ 47 :: bl n := by
  unfold joiS; rw [if_neg h, bl_cat, bl_cat]; simp [slW, bl]
theorem dir_cat {d n : ByteArray} (h47 : ∀ j : Nat, (bl n)[j]? ≠ some 47) : dirS (joiS d n) = d := by
  by_cases e : d = ⟨#[]⟩
  · have e1 : joiS d n = n := if_pos e
    rw [e1, dir_none (last_no h47), extract00, e]
  · have hb := bl_joi (n := n) e
    have hl : Lib.lastIndexByte (joiS d n) 47 = ((bl d).length : Int) := by
      refine last_at ?_ fun j hj hx => ?_
      · rw [hb]; simp
      · rw [hb, List.getElem?_append_right (by omega)] at hx
        obtain ⟨k, hk⟩ : ∃ k, j - (bl d).length = k + 1 := ⟨j - (bl d).length - 1, by omega⟩
        rw [hk, List.getElem?_cons_succ] at hx
        exact h47 k hx
    rw [dir_some hl]
    apply bl_inj
    unfold bl at hb ⊢
    rw [extract_list]
    simp only [List.drop_zero, Nat.sub_zero]
    rw [hb]; simp
theorem dir_joi {d n : ByteArray} (h : namT n = true) : dirS (joiS d n) = d := dir_cat (no47 h)
theorem joi_inj {d n m : ByteArray} (h : joiS d n = joiS d m) : n = m := by
  by_cases e : d = ⟨#[]⟩
  · unfold joiS at h; rwa [if_pos e, if_pos e] at h
  · have h2 := congrArg bl h
    rw [bl_joi e, bl_joi e] at h2
    have := List.append_cancel_left h2
    injection this with _ h3
    exact bl_inj h3

theorem parR_check {s : ByteArray} {cs : List Ct} {a : Int} (h : ParR s cs a 0) : checkC cs = 0 := by
  rcases h with ⟨_, _, _, h⟩ | ⟨_, ws, _, ⟨_, _, _, h⟩ | ⟨x, xs, _, _, _, h⟩ | ⟨ds, _, ⟨h1, _, _, h⟩ | ⟨h1, h2, _⟩⟩⟩
  · cases h
  · cases h
  · cases h
  · exact absurd h.symm h1
  · rw [h2]; exact h1
theorem chkE_nodup : ∀ {seen : List ByteArray} {rs : List Tg}, chkE seen rs = 0 → (∀ r ∈ rs, r.lab ∉ seen) ∧ (rs.map Tg.lab).Nodup
  | _, [], _ => ⟨(fun r h => by cases h), List.nodup_nil⟩
  | seen, q :: rs, h => by
    simp only [chkE] at h
    split at h
    · rename_i h1; exact absurd h h1
    split at h
    · cases h
    rename_i h2
    have ih := chkE_nodup h
    have hq : q.lab ∉ seen := fun hm => h2 ((memB_iff _ _).2 hm)
    refine ⟨fun r hr => ?_, ?_⟩
    · rcases List.mem_cons.1 hr with rfl | hr
      · exact hq
      · exact fun hm => ih.1 r hr (List.mem_append_left _ hm)
    · rw [List.map_cons, List.nodup_cons]
      refine ⟨fun hm => ?_, ih.2⟩
      obtain ⟨r, hr, e⟩ := List.mem_map.1 hm
      exact ih.1 r hr (by rw [e]; simp)
theorem checkE_nodup {rs : List Tg} (h : checkE rs = 0) : (rs.map Tg.lab).Nodup := by
  unfold checkE at h
  split at h
  · cases h
  · exact (chkE_nodup h).2
theorem ctT_lab (cs : List Ct) : (cs.map ctT).map Tg.lab = cs.map (fun c => c.2.1) := by simp [Function.comp_def, ctT]
structure FileOk (d : ByteArray) (cs : List Ct) : Prop where
  few : cs.length ≤ 100
  nod : (cs.map (fun c => c.2.1)).Nodup
  all : ∀ c ∈ cs, ∃ r, ruleE (ctT r) = 0 ∧ joiE d r.2.1 = 0 ∧ c = jnC d r ∧ dirS c.2.1 = d
theorem lfE_zero {d : ByteArray} : ∀ {cs : List Ct}, lfE d cs = 0 → ∀ c ∈ cs, joiE d c.2.1 = 0
  | [], _, c, h => by cases h
  | x :: cs, h, c, hc => by
    simp only [lfE] at h
    split at h
    · rename_i h1; exact absurd h h1
    rename_i h1
    rcases List.mem_cons.1 hc with rfl | hc
    · exact Classical.byContradiction h1
    · exact lfE_zero h c hc
theorem lfR_ok {f : Fl} {cs : List Ct} (h : LfR f cs 0) : FileOk (dirS f.1) cs := by
  rcases h with ⟨_, _, h⟩ | ⟨_, ds, a, e1, hp, ⟨h1, _, h2⟩ | ⟨h1, h2, _, h3⟩ | ⟨h1, h2, rfl, _⟩⟩
  · cases h
  · exact absurd h2.symm h1
  · exact absurd h3.symm h2
  · subst h1
    have hc : checkE (ds.map ctT) = 0 := parR_check hp
    have hk := checkE_ok hc
    have hn := checkE_nodup hc
    rw [ctT_lab] at hn
    refine ⟨by simpa using hk.1, ?_, fun c hcm => ?_⟩
    · rw [List.map_map]
      have : ((fun c : Ct => c.2.1) ∘ jnC (dirS f.1)) = (joiS (dirS f.1)) ∘ (fun c : Ct => c.2.1) := by funext c; rfl
      rw [this, ← List.map_map]
      unfold List.Nodup
      rw [List.pairwise_map]
      exact hn.imp fun h e => h (joi_inj e)
    · obtain ⟨r, hr, rfl⟩ := List.mem_map.1 hcm
      have hru := hk.2 _ (List.mem_map_of_mem hr)
      have hfr := (ruleE_ok hru).1
      refine ⟨r, hru, lfE_zero h2 r hr, rfl, dir_joi ?_⟩
      unfold freB at hfr
      rw [Bool.and_eq_true] at hfr
      exact hfr.1
structure GatOk (fs : List Fl) (ds : List Ct) : Prop where
  nod : (ds.map (fun c => c.2.1)).Nodup
  all : ∀ c ∈ ds, ∃ f ∈ fs, bldB f.1 = true ∧ ∃ r, ruleE (ctT r) = 0 ∧ joiE (dirS f.1) r.2.1 = 0 ∧ c = jnC (dirS f.1) r ∧ dirS c.2.1 = dirS f.1
theorem bld_inj {p q : ByteArray} (hp : bldB p = true) (hq : bldB q = true) (h : dirS p = dirS q) : p = q := by
  unfold bldB at hp hq
  rw [decide_eq_true_eq] at hp hq
  rw [hp, hq, h]
theorem Gat.ok {fs : List Fl} {o : Sum (List Ct) (ByteArray × Int)} (h : Gat fs o) : (fs.map Prod.fst).Nodup → ∀ ds, o = .inl ds → GatOk fs ds := by
  induction h with
  | nil => intro _ ds e; cases e; exact ⟨List.nodup_nil, fun c h => by cases h⟩
  | skip h1 _ ih =>
    intro hn ds e
    have := ih (List.nodup_cons.1 hn).2 ds e
    exact ⟨this.nod, fun c hc => by obtain ⟨f, hf, h⟩ := this.all c hc; exact ⟨f, List.mem_cons_of_mem _ hf, h⟩⟩
  | bad _ _ _ => intro _ ds e; cases e
  | err _ _ _ _ => intro _ ds e; cases e
  | @add f fs cs ds h1 h2 _ ih =>
    intro hn es e
    cases e
    have hn' := List.nodup_cons.1 hn
    have g := ih hn'.2 ds rfl
    have k := lfR_ok h2
    refine ⟨?_, fun c hc => ?_⟩
    · rw [List.map_append, List.nodup_append]
      refine ⟨k.nod, g.nod, fun a ha b hb e => ?_⟩
      subst e
      obtain ⟨x, hx, e1⟩ := List.mem_map.1 ha
      obtain ⟨y, hy, e2⟩ := List.mem_map.1 hb
      obtain ⟨_, _, _, _, h3⟩ := k.all x hx
      obtain ⟨f2, hf2, hb2, _, _, _, _, h4⟩ := g.all y hy
      have e3 : x.2.1 = y.2.1 := e1.trans e2.symm
      have : f.1 = f2.1 := bld_inj h1 hb2 (by rw [← h3, ← h4, e3])
      exact hn'.1 (by rw [show Prod.fst f = f2.1 from this]; exact List.mem_map_of_mem hf2)
    · rcases List.mem_append.1 hc with hc | hc
      · obtain ⟨r, h3, h4, h5, h6⟩ := k.all c hc
        exact ⟨f, by simp, h1, r, h3, h4, h5, h6⟩
      · obtain ⟨f, hf, h⟩ := g.all c hc; exact ⟨f, List.mem_cons_of_mem _ hf, h⟩
theorem tchk_asc : ∀ {p : Option ByteArray} {fs : List Fl}, tchk p fs = 0 → (∀ f ∈ fs, upB p f.1 = true) ∧ Asc (fs.map Prod.fst)
  | _, [], _ => ⟨(fun f h => by cases h), List.Pairwise.nil⟩
  | p, f :: r, h => by
    simp only [tchk] at h
    split at h
    · split at h
      · rename_i h1 h2
        have ih := tchk_asc h
        refine ⟨fun g hg => ?_, ?_⟩
        · rcases List.mem_cons.1 hg with rfl | hg
          · exact h2
          · have h3 := ih.1 g hg
            cases p with
            | none => rfl
            | some q => exact lessB_trans h2 h3
        · refine List.pairwise_cons.2 ⟨fun x hx => ?_, ih.2⟩
          obtain ⟨g, hg, rfl⟩ := List.mem_map.1 hx
          exact ih.1 g hg
      · cases h
    · cases h
theorem TckR.asc {fs : List Fl} (h : TckR fs 0) : Asc (fs.map Prod.fst) := by
  rcases h with ⟨_, h⟩ | ⟨_, h1, h2⟩ | ⟨_, h, _⟩
  · cases h
  · exact absurd h2.symm h1
  · exact (tchk_asc h).2
theorem asc_of_srt : ∀ {l : List Ct}, SrtC l → (l.map (fun c => c.2.1)).Nodup → Asc (l.map (fun c => c.2.1))
  | [], _, _ => List.Pairwise.nil
  | a :: l, h, hn => by
    have h1 := List.pairwise_cons.1 h
    have h2 := List.nodup_cons.1 hn
    refine List.pairwise_cons.2 ⟨fun x hx => ?_, asc_of_srt h1.2 h2.2⟩
    obtain ⟨b, hb, rfl⟩ := List.mem_map.1 hx
    cases hl : less a.2.1 b.2.1 with
    | true => rfl
    | false => exact absurd (by show a.2.1 ∈ _; rw [lessB_conn hl (h1.1 b hb)]; exact hx) h2.1
theorem srt_of_asc {l : List Ct} (h : Asc (l.map (fun c => c.2.1))) : SrtC l := by
  unfold Asc at h
  rw [List.pairwise_map] at h
  exact h.imp fun h => lessB_asymm h
theorem srt_uniq : ∀ {l m : List Ct}, l.Perm m → Asc (l.map (fun c => c.2.1)) → Asc (m.map (fun c => c.2.1)) → l = m
  | [], m, h, _, _ => (List.nil_perm.1 h).symm
  | a :: l, [], h, _, _ => by have := h.length_eq; simp at this
  | a :: l, b :: m, h, h1, h2 => by
    have ha := List.pairwise_cons.1 h1
    have hb := List.pairwise_cons.1 h2
    have e : a = b := by
      rcases List.mem_cons.1 (h.mem_iff.1 (List.mem_cons_self (a := a) (l := l))) with e | e
      · exact e
      rcases List.mem_cons.1 (h.mem_iff.2 (List.mem_cons_self (a := b) (l := m))) with e' | e'
      · exact e'.symm
      have x := hb.1 a.2.1 (List.mem_map_of_mem e)
      have y := ha.1 b.2.1 (List.mem_map_of_mem e')
      have := lessB_trans x y
      rw [lessB_irrefl] at this; cases this
    subst e
    rw [srt_uniq ((List.perm_cons a).1 h) ha.2 hb.2]
theorem LdT.uniq {ps : List ByteArray} {ss us vs : List Ct} {wh wx : ByteArray} {e f : Int} (h : LdT ps ss us wh e) (g : LdT ps ss vs wx f) : us = vs ∧ wh = wx ∧ e = f := by
  rcases h with ⟨k, c, h1, h2, h3, h4, rfl, rfl⟩ | ⟨h1, l, h2, h3⟩
  · rcases g with ⟨j, d, g1, g2, g3, g4, rfl, rfl⟩ | ⟨g1, _⟩
    · have mem : ∀ {a b : Nat} {x : Ct}, ss[a]? = some x → a < b → x ∈ ss.take b := fun {a b x} hx hab => by
        have ha := List.getElem?_eq_some_iff.1 hx
        rw [← ha.2, List.mem_iff_getElem]
        exact ⟨a, by rw [List.length_take]; exact Nat.lt_min.2 ⟨hab, ha.1⟩, by simp⟩
      rcases Nat.lt_trichotomy k j with e | e | e
      · have := g2 c (mem h1 e); rw [h3] at this; exact absurd this h4
      · subst e; rw [h1] at g1; cases g1; exact ⟨rfl, rfl, h3.symm.trans g3⟩
      · have := h2 d (mem g1 e); rw [g3] at this; exact absurd this g4
    · have := g1 c (List.mem_of_getElem? h1); rw [h3] at this; exact absurd this h4
  · rcases g with ⟨j, d, g1, g2, g3, g4, rfl, rfl⟩ | ⟨g1, m, g2, g3⟩
    · have := h1 d (List.mem_of_getElem? g1); rw [g3] at this; exact absurd this g4
    · obtain rfl := h2.uniq g2
      rcases h3 with ⟨x, xs, rfl, rfl, rfl, rfl⟩ | ⟨rfl, rfl, rfl, rfl⟩
      · rcases g3 with ⟨y, ys, e, rfl, rfl, rfl⟩ | ⟨e, _⟩
        · cases e; exact ⟨rfl, rfl, rfl⟩
        · cases e
      · rcases g3 with ⟨y, ys, e, _⟩ | ⟨_, rfl, rfl, rfl⟩
        · cases e
        · exact ⟨rfl, rfl, rfl⟩
theorem LdR.uniq {fs : List Fl} {us vs : List Ct} {wh wx : ByteArray} {e f : Int} (h : LdR fs us wh e) (g : LdR fs vs wx f) : us = vs ∧ wh = wx ∧ e = f := by
  obtain ⟨e0, t1, h⟩ := h
  obtain ⟨f0, t2, g⟩ := g
  obtain rfl := t1.same t2
  rcases h with ⟨h0, rfl, rfl, rfl⟩ | ⟨h0, h⟩
  · rcases g with ⟨_, rfl, rfl, rfl⟩ | ⟨g0, _⟩
    · exact ⟨rfl, rfl, rfl⟩
    · exact absurd g0 h0
  rcases g with ⟨g0, _⟩ | ⟨_, g⟩
  · exact absurd h0 g0
  subst h0
  rcases h with ⟨p, x, h1, rfl, rfl, rfl⟩ | ⟨ds, h1, h2⟩
  · rcases g with ⟨q, y, g1, rfl, rfl, rfl⟩ | ⟨es, g1, _⟩
    · have := h1.uniq g1; cases this; exact ⟨rfl, rfl, rfl⟩
    · have := h1.uniq g1; cases this
  rcases g with ⟨q, y, g1, _⟩ | ⟨es, g1, g2⟩
  · have := h1.uniq g1; cases this
  have := h1.uniq g1
  cases this
  rcases h2 with ⟨h2, rfl, rfl, rfl⟩ | ⟨h2, ss, h3, h4, h5⟩
  · rcases g2 with ⟨_, rfl, rfl, rfl⟩ | ⟨g2, _⟩
    · exact ⟨rfl, rfl, rfl⟩
    · omega
  rcases g2 with ⟨g2, _⟩ | ⟨_, tt, g3, g4, g5⟩
  · omega
  have hok := h1.ok t1.asc.nodup ds rfl
  have n1 : (ss.map (fun c => c.2.1)).Nodup := (h3.map _).nodup_iff.2 hok.nod
  have n2 : (tt.map (fun c => c.2.1)).Nodup := (g3.map _).nodup_iff.2 hok.nod
  obtain rfl := srt_uniq (h3.trans g3.symm) (asc_of_srt h4 n1) (asc_of_srt g4 n2)
  exact h5.uniq g5
end Go.Proofs.YtddlohbhchjjhaaGreatDoor

namespace Go.Proofs.YtddlohbhchjjhaaGreatDoor
open Go.RowKit Go.Shelf

def lA : ByteArray := ⟨#[97]⟩
def lB : ByteArray := ⟨#[98]⟩
def paW : ByteArray := ⟨#[97, 46, 112, 107]⟩
def pbW : ByteArray := ⟨#[98, 46, 112, 107]⟩
def awkD : ByteArray := ⟨#[108, 105, 98, 32, 97, 32, 59, 32, 108, 105, 98, 32, 98, 32, 100, 101, 112, 115, 32, 97, 32, 59]⟩
def awkF : List Fl := [(buildW, awkD), (paW, ⟨#[]⟩), (pbW, ⟨#[]⟩)]
def cA : Ct := (1, lA, [], [])
def cB : Ct := (1, lB, [lA], [])
abbrev Sv := Option Addr × Nat × Nat
def tgA (a b : Sv) : Tg := ⟨lA, 1, a.1, a.2.1, a.2.2, [], b.1, b.2.1, b.2.2, []⟩
def tgB (a b : Sv) : Tg := ⟨lB, 1, a.1, a.2.1, a.2.2, [lA], b.1, b.2.1, b.2.2, []⟩
theorem ct_two {rs : List Tg} (h : rs.map ct = [cA, cB]) : ∃ a b c d, rs = [tgA a b, tgB c d] := by
  match rs, h with
  | [t, u], h =>
    obtain ⟨l1, k1, a1, a2, a3, d1, b1, b2, b3, v1⟩ := t
    obtain ⟨l2, k2, c1, c2, c3, d2, e1, e2, e3, v2⟩ := u
    simp only [List.map_cons, List.map_nil, ct, cA, cB, List.cons.injEq, Prod.mk.injEq, and_true] at h
    obtain ⟨⟨h1, h2, h3, h4⟩, h5, h6, h7, h8⟩ := h
    subst h1 h2 h3 h4 h5 h6 h7 h8
    exact ⟨(a1, a2, a3), (b1, b2, b3), (c1, c2, c3), (e1, e2, e3), rfl⟩
  | [], h => exact absurd (congrArg List.length h) (by simp)
  | [t], h => exact absurd (congrArg List.length h) (by simp)
  | _ :: _ :: _ :: _, h => exact absurd (congrArg List.length h) (by simp)
theorem run_dec {s : ByteArray} {a e : Nat} (h : (decide (a < e) && (decide (e ≤ s.size) && (((List.range e).all fun j => decide (j < a) || (match (bl s)[j]? with | some c => decide (c ≠ 32 ∧ c ≠ 10) | none => true)) && (match (bl s)[e]? with | some c => !(decide (c ≠ 32 ∧ c ≠ 10)) | none => true)))) = true) : Run s (fun c => c ≠ 32 ∧ c ≠ 10) a e := by
  simp only [Bool.and_eq_true, decide_eq_true_eq, List.all_eq_true, List.mem_range, Bool.or_eq_true] at h
  obtain ⟨h1, h2, h3, h4⟩ := h
  refine ⟨h1, h2, fun j c haj hje hc => ?_, fun c hc => ?_⟩
  · rcases h3 j hje with h | h
    · omega
    · rw [hc] at h; exact of_decide_eq_true h
  · rw [hc] at h4
    simp only [Bool.not_eq_true', decide_eq_false_iff_not] at h4
    exact h4
def awkW : List Wd := [(libW, 0), (lA, 4), (semiW, 6), (libW, 8), (lB, 12), (depsW, 14), (lA, 19), (semiW, 21)]
def awkW2 : List Wd := [(libW, 8), (lB, 12), (depsW, 14), (lA, 19), (semiW, 21)]
theorem awk_words : WdF awkD 0 awkW := by
  have e1 : awkD.extract 0 3 = libW := by decide
  have e2 : awkD.extract 4 5 = lA := by decide
  have e3 : awkD.extract 6 7 = semiW := by decide
  have e4 : awkD.extract 8 11 = libW := by decide
  have e5 : awkD.extract 12 13 = lB := by decide
  have e6 : awkD.extract 14 18 = depsW := by decide
  have e7 : awkD.extract 19 20 = lA := by decide
  have e8 : awkD.extract 21 22 = semiW := by decide
  have w8 : WdF awkD 21 [(awkD.extract 21 22, 21)] := .word (c := 59) rfl (by decide) (by decide) (by decide) (run_dec (by kernel_rfl)) (.done (by decide))
  have w7 : WdF awkD 19 [(awkD.extract 19 20, 19), (awkD.extract 21 22, 21)] := .word (c := 97) rfl (by decide) (by decide) (by decide) (run_dec (by kernel_rfl)) (.blank (c := 32) rfl (.inl rfl) w8)
  have w6 : WdF awkD 14 [(awkD.extract 14 18, 14), (awkD.extract 19 20, 19), (awkD.extract 21 22, 21)] := .word (c := 100) rfl (by decide) (by decide) (by decide) (run_dec (by kernel_rfl)) (.blank (c := 32) rfl (.inl rfl) w7)
  have w5 : WdF awkD 12 [(awkD.extract 12 13, 12), (awkD.extract 14 18, 14), (awkD.extract 19 20, 19), (awkD.extract 21 22, 21)] := .word (c := 98) rfl (by decide) (by decide) (by decide) (run_dec (by kernel_rfl)) (.blank (c := 32) rfl (.inl rfl) w6)
  have w4 : WdF awkD 8 [(awkD.extract 8 11, 8), (awkD.extract 12 13, 12), (awkD.extract 14 18, 14), (awkD.extract 19 20, 19), (awkD.extract 21 22, 21)] := .word (c := 108) rfl (by decide) (by decide) (by decide) (run_dec (by kernel_rfl)) (.blank (c := 32) rfl (.inl rfl) w5)
  have w3 : WdF awkD 6 [(awkD.extract 6 7, 6), (awkD.extract 8 11, 8), (awkD.extract 12 13, 12), (awkD.extract 14 18, 14), (awkD.extract 19 20, 19), (awkD.extract 21 22, 21)] := .word (c := 59) rfl (by decide) (by decide) (by decide) (run_dec (by kernel_rfl)) (.blank (c := 32) rfl (.inl rfl) w4)
  have w2 : WdF awkD 4 [(awkD.extract 4 5, 4), (awkD.extract 6 7, 6), (awkD.extract 8 11, 8), (awkD.extract 12 13, 12), (awkD.extract 14 18, 14), (awkD.extract 19 20, 19), (awkD.extract 21 22, 21)] := .word (c := 97) rfl (by decide) (by decide) (by decide) (run_dec (by kernel_rfl)) (.blank (c := 32) rfl (.inl rfl) w3)
  have w1 : WdF awkD 0 [(awkD.extract 0 3, 0), (awkD.extract 4 5, 4), (awkD.extract 6 7, 6), (awkD.extract 8 11, 8), (awkD.extract 12 13, 12), (awkD.extract 14 18, 14), (awkD.extract 19 20, 19), (awkD.extract 21 22, 21)] := .word (c := 108) rfl (by decide) (by decide) (by decide) (run_dec (by kernel_rfl)) (.blank (c := 32) rfl (.inl rfl) w2)
  rwa [e1, e2, e3, e4, e5, e6, e7, e8] at w1
theorem awk_prs : Prs awkW (.inl [cA, cB]) := by
  have e1 : stW 5 awkW = (awkW2, cA) := by kernel_rfl
  have e2 : stW 5 awkW2 = ([], cB) := by kernel_rfl
  have o1 : ∀ j < 5, okW j awkW = true := fun j hj => match j, hj with
    | 0, _ => by kernel_rfl
    | 1, _ => by kernel_rfl
    | 2, _ => by kernel_rfl
    | 3, _ => by kernel_rfl
    | 4, _ => by kernel_rfl
    | n + 5, h => absurd h (by omega)
  have o2 : ∀ j < 5, okW j awkW2 = true := fun j hj => match j, hj with
    | 0, _ => by kernel_rfl
    | 1, _ => by kernel_rfl
    | 2, _ => by kernel_rfl
    | 3, _ => by kernel_rfl
    | 4, _ => by kernel_rfl
    | n + 5, h => absurd h (by omega)
  have h2 := Prs.all (ws := awkW2) (cs := []) (by simp [awkW2]) o2 (by rw [e2]; exact .done)
  rw [e2] at h2
  have h1 := Prs.all (ws := awkW) (cs := [cB]) (by simp [awkW]) o1 (by rw [e1]; exact h2)
  rwa [e1] at h1
theorem awk_lf : LfR (buildW, awkD) [cA, cB] 0 := by
  have hd : dirS buildW = ⟨#[]⟩ := by kernel_rfl
  refine .inr ⟨fun h => h.1 hd, [cA, cB], 0, 0, .inr ⟨by decide, awkW, awk_words, .inr (.inr ⟨_, awk_prs, .inr ⟨by kernel_rfl, rfl, rfl, rfl⟩⟩)⟩, .inr (.inr ⟨rfl, ?_, ?_, rfl⟩)⟩
  · rw [hd]; kernel_rfl
  · rw [hd]; kernel_rfl
theorem awk_gat : Gat awkF (.inl [cA, cB]) := .add (cs := [cA, cB]) (ds := []) (by kernel_rfl) awk_lf (.skip (by kernel_rfl) (.skip (by kernel_rfl) .nil))
theorem awk_dir : ¬ DirE awkF := by
  rintro ⟨f, hf, j, hj, h⟩
  unfold dirAt at h
  rw [Bool.and_eq_true, decide_eq_true_eq] at h
  have h47 : ∀ f ∈ awkF, (47 : UInt8) ∉ bl f.1 := by decide
  exact h47 f hf (List.mem_of_getElem? h.1)
theorem awk_tck : TckR awkF 0 := .inr (.inr ⟨by decide, by kernel_rfl, .inr ⟨awk_dir, rfl⟩⟩)
theorem ab : lA ≠ lB := by decide
section
variable (a b c d : Sv)
theorem awk_find (s : ByteArray) : findT [tgA a b, tgB c d] s = if lA = s then some (tgA a b) else if lB = s then some (tgB c d) else none := rfl
theorem awk_a : nxT [tgA a b, tgB c d] lA = [] := by rw [nxT, awk_find, if_pos rfl]; rfl
theorem awk_b : nxT [tgA a b, tgB c d] lB = [lA] := by
  have : isT [tgA a b, tgB c d] lA = true := by rw [isT, awk_find, if_pos rfl]; rfl
  rw [nxT, awk_find, if_neg ab, if_pos rfl]; show List.filter _ [lA] = _; rw [List.filter_cons_of_pos this]; rfl
theorem awk_o (s : ByteArray) (h1 : lA ≠ s) (h2 : lB ≠ s) : nxT [tgA a b, tgB c d] s = [] := by
  rw [nxT, awk_find, if_neg h1, if_neg h2]
end
section
variable {a b c d : Sv}
theorem awk_step {s x : ByteArray} (h : x ∈ nxT [tgA a b, tgB c d] s) : s = lB ∧ x = lA := by
  by_cases h1 : lA = s
  · rw [← h1, awk_a] at h; cases h
  · by_cases h2 : lB = s
    · rw [← h2, awk_b] at h; exact ⟨h2.symm, List.mem_singleton.1 h⟩
    · rw [awk_o a b c d s h1 h2] at h; cases h
theorem awk_stp : ∀ {n : Nat} {s x : ByteArray}, Stp (nxT [tgA a b, tgB c d]) n s x → s = lB ∧ x = lA
  | 0, s, x, h => awk_step h
  | n + 1, s, x, h => by
    obtain ⟨y, hy, hx⟩ := h
    have h1 := awk_stp hy
    have h2 := awk_step hx
    exact absurd (h1.2.symm.trans h2.1) ab
theorem awk_free (s : ByteArray) : ¬ Rch (nxT [tgA a b, tgB c d]) s s := by
  rintro ⟨n, h⟩
  have := awk_stp h
  exact ab (this.2.symm.trans this.1)
theorem awk_rch (x : ByteArray) : Rch (nxT [tgA a b, tgB c d]) lB x ↔ x = lA := by
  constructor
  · rintro ⟨n, h⟩; exact (awk_stp h).2
  · rintro rfl; exact Rch.one (by rw [awk_b]; simp)
theorem awk_cyc : RcyR [tgA a b, tgB c d] [] := .inl ⟨rfl, awk_free⟩
theorem awk_asc : Asc [lA, lB] := by
  unfold Asc
  simp only [List.pairwise_cons, List.mem_cons, List.mem_nil_iff, or_false, forall_eq]
  exact ⟨by decide, (fun a h => h.elim), .nil⟩
theorem awk_vld : Vld [tgA a b, tgB c d] := by
  refine ⟨by simp, fun t ht => ?_, awk_asc, awk_free⟩
  simp only [List.mem_cons, List.mem_nil_iff, or_false] at ht
  rcases ht with rfl | rfl
  · exact ⟨by kernel_rfl, .inl rfl, by simp [tgA], (fun d hd => by cases hd), .nil, rfl⟩
  · exact ⟨by kernel_rfl, .inl rfl, by simp [tgB], (fun d hd => by rw [List.mem_singleton.1 hd, kindOf, awk_find, if_pos rfl]; rfl), by simp [tgB], rfl⟩
theorem awk_ldr : LdR awkF [cA, cB] ⟨#[]⟩ 0 :=
  ⟨0, awk_tck, .inr ⟨rfl, .inr ⟨[cA, cB], awk_gat, .inr ⟨by decide, [cA, cB], .refl _, srt_of_asc awk_asc, .inr ⟨fun d hd => by
    simp only [List.mem_cons, List.mem_nil_iff, or_false] at hd
    rcases hd with rfl | rfl
    · kernel_rfl
    · kernel_rfl, [], awk_cyc (a := (none, 0, 0)) (b := (none, 0, 0)) (c := (none, 0, 0)) (d := (none, 0, 0)), .inr ⟨rfl, rfl, rfl, rfl⟩⟩⟩⟩⟩⟩
theorem awk_ord : ordK [tgA a b, tgB c d] 2 = [lA, lB] := by
  have r1 : rdyB [] (tgA a b) = true := by kernel_rfl
  have r2 : rdyB [lA] (tgA a b) = false := by kernel_rfl
  have r3 : rdyB [lA] (tgB c d) = true := by kernel_rfl
  have e1 : ordK [tgA a b, tgB c d] 1 = [lA] := by simp only [ordK, List.find?, r1]; rfl
  rw [ordK, e1]; simp only [List.find?, r2, r3]; rfl
theorem awk1 {l : List ByteArray} {err : Int} (h : OrdR [tgA a b, tgB c d] l err) : err = 0 ∧ l = [lA, lB] := by
  have := h.same (.inr ⟨awk_vld, rfl, rfl⟩)
  exact ⟨this.2, this.1.trans awk_ord⟩
theorem awk2 {l : List ByteArray} {err : Int} (h : FndR [tgA a b, tgB c d] lB l err) : err = 0 ∧ l = [lA] := by
  rcases h with ⟨h, _⟩ | ⟨_, h, _⟩ | ⟨_, _, h1, h2, h3⟩
  · exact absurd awk_vld h
  · rw [isT, awk_find, if_neg ab, if_pos rfl] at h; cases h
  · exact ⟨h1, asc_ext h2 (List.pairwise_singleton _ _) fun x => (h3 x).trans ((awk_rch x).trans (by simp))⟩
theorem awk3 {l : List ByteArray} (h : AffR [tgA a b, tgB c d] [paW] l) : l = [lA, lB] := by
  rcases h with ⟨h, _⟩ | ⟨_, h2, h3⟩
  · exact absurd awk_vld h
  · refine asc_ext h2 awk_asc fun x => (h3 x).trans ⟨?_, fun hx => ?_⟩
    · rintro ⟨t, ht, _, h⟩
      simp only [List.length_cons, List.length_nil, List.take, List.mem_cons, List.mem_nil_iff, or_false] at ht
      rcases h with h | h
      · rcases ht with rfl | rfl
        · rw [h]; simp [tgA]
        · rw [h]; simp [tgB]
      · obtain ⟨n, hn⟩ := h
        rw [(awk_stp hn).1]; simp
    · refine ⟨tgA a b, by simp, by kernel_rfl, ?_⟩
      simp only [List.mem_cons, List.mem_nil_iff, or_false] at hx
      rcases hx with rfl | rfl
      · exact .inl rfl
      · exact .inr ((awk_rch lA).2 rfl)
end
end Go.Proofs.YtddlohbhchjjhaaGreatDoor

namespace Go.Proofs.YtddlohbhchjjhaaGreatDoor

end Go.Proofs.YtddlohbhchjjhaaGreatDoor

namespace Go.Proofs.YtddlohbhchjjhaaGreatDoor
open Go.RowKit Go.Shelf

theorem GatOk.kind {fs : List Fl} {ds : List Ct} (h : GatOk fs ds) : ∀ c ∈ ds, c.1 = 1 ∨ c.1 = 2 := fun c hc => by
  obtain ⟨_, _, _, r, h1, _, rfl, _⟩ := h.all c hc
  exact (ruleE_ok h1).2.2.2.1
theorem GatOk.size {fs : List Fl} {ds : List Ct} (h : GatOk fs ds) (hf : ∀ f ∈ fs, f.1.size ≤ 500) : ∀ c ∈ ds, c.2.1.size ≤ 600 := fun c hc => by
  obtain ⟨f, hfm, _, r, h1, _, rfl, _⟩ := h.all c hc
  have hn := freB_size (ruleE_ok h1).1
  have hd := Nat.le_trans (dir_size f.1) (hf f hfm)
  show (joiS (dirS f.1) r.2.1).size ≤ 600
  simp only [ctT] at hn
  unfold joiS
  split
  · omega
  · rw [ByteArray.size_append, ByteArray.size_append]; have : slW.size = 1 := rfl; omega
theorem LdR.none_ {fs : List Fl} {us : List Ct} {wh : ByteArray} {err : Int} (h : LdR fs us wh err) (he : err ≠ 0) : us = [] := by
  obtain ⟨e0, _, ⟨_, h, _⟩ | ⟨_, ⟨_, _, _, h, _⟩ | ⟨_, _, ⟨_, h, _⟩ | ⟨_, _, _, _, ⟨_, _, _, _, _, _, h, _⟩ | ⟨_, _, _, ⟨_, _, _, h, _⟩ | ⟨_, _, _, h⟩⟩⟩⟩⟩⟩ := h
  · exact h
  · exact h
  · exact h
  · exact h
  · exact h
  · exact absurd h he
end Go.Proofs.YtddlohbhchjjhaaGreatDoor

namespace Go.Proofs.YtddlohbhchjjhaaGreatDoor
open Go.RowKit Go.Shelf Go.Maps
attribute [local go_sem] Oper.semAt_some

theorem res_cellG {fn : Func} {c i j : Tmp} (h : fn.results = #[.cell c 27, .tmp i, .tmp j]) {w : World} {a : Array Value} {b : Nat} {x v u : Value} (ha : a[c]?.getD undef = .pointer (some ⟨b, 0, none⟩)) (hk : Bk w b 27 #[x]) (hv : a[i]?.getD undef = v) (hu : a[j]?.getD undef = u) :
    (results fn a).run Tryz.prog w = .ok (.tuple #[.agg #[x], v, u]) w := by
  have h0 := hk.cell 0
  simp at h0
  simp [results, h, ha, hv, hu, go_sem, h0]
theorem Bk.set1 {w : World} {b : Nat} {t : TypeId} {x : Value} (h : Bk w b t #[x]) (x' : Value) : Bk (w.setCell ⟨b, 0, none⟩ x') b t #[x'] := by
  have := h.set 0 x'
  simpa using this
theorem TgX.keepX {W W' : World} {r : Tg} (h : TgX W 0 r) (hk : ∀ (k : Nat) (cur : Array Value), W.heap[k]? = some (Obj.cells cur 9 (0, 0)) → W'.heap[k]? = W.heap[k]?) : TgX W' 0 r := by
  have key : ∀ {v : Value} {n : Nat} {xs : List Value}, W.ownsRow (0 + 1) 9 1 v n xs → W'.ownsRow (0 + 1) 9 1 v n xs := fun hr =>
    own_keep hr (fun k hk' => by
      obtain ⟨_, cur, h2⟩ := own_row hr hk'
      exact hk k cur h2)
  exact ⟨key h.d, key h.v, h.ls, h.ds, h.vs⟩
theorem TgX.map_ {W W' : World} {r : Tg} {b N : Nat} {k : TypeId} {g : ByteArray → Option Value} (h : TgX W 0 r) (hm : Rm W Tryz.prog k b N g) (hg : W.grownBy W' (some b)) : TgX W' 0 r :=
  h.keepX fun j cur hj => hg.block j (Array.getElem?_eq_some_iff.1 hj).1 (fun e => by
    cases e
    obtain ⟨D, ⟨es, clock, h1, _⟩, _⟩ := hm
    rw [h1] at hj; cases hj)
theorem TgX.row_ {W W' : World} {r : Tg} {base n : Nat} {v : Value} {xs : List Value} (h : TgX W 0 r) (ho : W.ownsRow base 35 4 v n xs) (hg : W.grownBy W' v.ownBlock) : TgX W' 0 r :=
  h.keepX fun j cur hj => hg.block j (Array.getElem?_eq_some_iff.1 hj).1 (fun e => by
    obtain ⟨_, cur', h2⟩ := own_row ho e.symm
    rw [hj] at h2
    injection h2 with h2
    injection h2 with _ h3
    exact absurd h3 (by decide))
theorem TgX.box_ {W : World} {r : Tg} {b i : Nat} {cs : Array Value} (h : TgX W 0 r) (hk : Bk W b 27 cs) (u : Value) : TgX (W.setCell ⟨b, i, none⟩ u) 0 r :=
  h.keepX fun j cur hj => Below.heap_setCell _ _ _ _ (fun e => by
    have e' : j = b := e
    subst e'
    unfold Bk at hk
    rw [hk] at hj
    injection hj with hj
    injection hj with _ h3
    exact absurd h3 (by decide))
theorem TgX.below_ {W W' : World} {r : Tg} (h : TgX W 0 r) (hb : Below W.heap.size W W') : TgX W' 0 r := h.step (BelowX.of_below hb (Nat.zero_le _))
theorem own_drewN {W : World} {base size n : Nat} {e : TypeId} {v : Value} {xs : List Value} (h : W.ownsRow base e size v n xs) (q : Nat) : (W.drewN q).ownsRow base e size v n xs := own_keep h (fun _ _ => rfl)
theorem TgX.drewN {W : World} {r : Tg} (h : TgX W 0 r) (q : Nat) : TgX (W.drewN q) 0 r := h.keepX fun _ _ _ => rfl
theorem Rm.drewN {W : World} {P : Program} {k : TypeId} {b N : Nat} {g : ByteArray → Option Value} (h : Rm W P k b N g) (q : Nat) : Rm (W.drewN q) P k b N g := h.below (below_drewN (Below.refl _ W) q) h.lt
theorem Rm.setc {W : World} {P : Program} {k : TypeId} {b N : Nat} {g : ByteArray → Option Value} (h : Rm W P k b N g) {p : Addr} (hp : b ≠ p.block) {u : Value} : Rm (W.setCell p u) P k b N g := by
  obtain ⟨D, ⟨es, clock, h1, h2⟩, h3⟩ := h
  exact ⟨D, ⟨es, clock, (Below.heap_setCell W p u b hp).trans h1, h2⟩, h3⟩
def LdEnd (fs : List Fl) (w : World) (e : Ending) (w' : World) : Prop :=
  ∃ A m c rs wh err, e = .returned (.tuple #[.agg #[.slice A m c], .string wh, .int .i64 err]) ∧ Sl w' w'.heap.size 4 A m (flat tgC rs) ∧ (∀ t ∈ rs, TgOk w' w'.heap.size t) ∧ m ≤ c ∧ c ≤ maxLen ∧ LdR fs (rs.map ct) wh err ∧ Below w.heap.size w w'
theorem LdEnd.none_ {fs : List Fl} {w w' : World} {wh : ByteArray} {err : Int} (h : LdR fs [] wh err) (hb : Below w.heap.size w w') : LdEnd fs w (.returned (.tuple #[.agg #[.slice none 0 0], .string wh, .int .i64 err])) w' :=
  ⟨none, 0, 0, [], wh, err, rfl, Sl.nil _ _ _ _, (fun t h => by cases h), Nat.le_refl _, Nat.zero_le _, h, hb⟩
theorem srtC_of {us : List Tg} (h : SrtT us) : SrtC (us.map ct) := by
  unfold SrtC; rw [List.pairwise_map]; exact h
theorem GatOk.few {fs : List Fl} {ds : List Ct} (h : GatOk fs ds) : ∀ c ∈ ds, c.2.2.1.length ≤ 20 := fun c hc => by
  obtain ⟨_, _, _, r, h1, _, rfl, _⟩ := h.all c hc
  exact (ruleE_ok h1).2.1
theorem ldT_bad {ps : List ByteArray} {us : List Tg} {j : Nat} {t : Tg} {err : Int} (hj : us[j]? = some t) (h0 : ∀ d ∈ us.take j, ctE ps us d = 0) (h1 : ctE ps us t = err) (he : err ≠ 0) : LdT ps (us.map ct) [] t.lab err :=
  .inl ⟨j, ct t, by simp [hj], fun d hd => by
    rw [← List.map_take] at hd
    obtain ⟨x, hx, rfl⟩ := List.mem_map.1 hd
    rw [nf_map]; exact (ctE_nf ps us x).trans (h0 x hx), by rw [nf_map]; exact (ctE_nf ps us t).trans h1, he, rfl, rfl⟩
theorem ldT_all {ps : List ByteArray} {us : List Tg} (h0 : ∀ d ∈ us, ctE ps us d = 0) : ∀ d ∈ us.map ct, ctE ps ((us.map ct).map ctT) (ctT d) = 0 := fun d hd => by
  obtain ⟨x, hx, rfl⟩ := List.mem_map.1 hd
  rw [nf_map]; exact (ctE_nf ps us x).trans (h0 x hx)
theorem ldT_cyc {ps : List ByteArray} {us : List Tg} {x : ByteArray} {xs : List ByteArray} (h0 : ∀ d ∈ us, ctE ps us d = 0) (h : RcyR us (x :: xs)) : LdT ps (us.map ct) [] x 23 :=
  .inr ⟨ldT_all h0, x :: xs, by rw [nf_map]; exact rcyR_nf h, .inl ⟨x, xs, rfl, rfl, rfl, rfl⟩⟩
theorem ldT_ok {ps : List ByteArray} {us : List Tg} (h0 : ∀ d ∈ us, ctE ps us d = 0) (h : RcyR us []) : LdT ps (us.map ct) (us.map ct) ⟨#[]⟩ 0 :=
  .inr ⟨ldT_all h0, [], by rw [nf_map]; exact rcyR_nf h, .inr ⟨rfl, rfl, rfl, rfl⟩⟩
set_option maxRecDepth 100000 in
set_option maxHeartbeats 8000000 in
theorem load_any (A : Option Addr) (n c B : Nat) (fs : List Fl) (w : World) (h0 : Sl w B 2 A n (flat flC fs)) (hB : B ≤ w.heap.size) (hn : n ≤ 1000) (hsz : ∀ f ∈ fs, f.1.size ≤ 500 ∧ f.2.size ≤ 60000) :
    Calls Tryz.prog 13 #[.slice A n c] w (LdEnd fs w) := by
  have HL := Lib.hid (h0.len flC_len (by omega))
  have H0 := Lib.hid h0; have HSZ := Lib.hid hsz
  clear h0 hsz
  have hmm := @run_makeMap Tryz.prog
  have hzz := Tryz.zeroValue4
  obtain ⟨W0, hW0⟩ : ∃ W0, w.alloc (.cells #[.slice none 0 0] 27) = W0 := ⟨_, rfl⟩
  have HB0 : Hid (Below w.heap.size w W0) := by rw [← hW0]; exact (Below.refl _ w).alloc (Nat.le_refl _) _
  have HK0 : Hid (Bk W0 w.heap.size 27 #[.slice none 0 0]) := by rw [← hW0]; exact Bk.new w _ _
  have zW0 : W0.heap.size = w.heap.size + 1 := by rw [← hW0]; simp
  have HTC := Lib.hid (tcheck_any A n c B fs W0 (H0.out.below HB0.out hB) (by omega) (by omega) (fun f hf => ⟨by have := (HSZ.out f hf).1; omega, (HSZ.out f hf).2⟩))
  go_enter Tryz.func13, Tryz.ntmps13
  go_wp2_with fail
  refine HTC.out.mono ?_
  rintro e w1 ⟨err, rfl, htc, hb1⟩
  have HT := Lib.hid htc
  have HK1 := Lib.hid (HK0.out.below hb1 (by omega))
  have HB1 : Hid (Below w.heap.size w w1) := HB0.out.trans (hb1.mono (by omega))
  have zw1 : w.heap.size < w1.heap.size := HK1.out.lt
  clear htc hb1 HTC hW0
  by_cases he : err = 0
  rotate_left
  · have he' : (err != 0) = true := by simpa using he
    have HE : Hid (LdR fs [] ⟨#[]⟩ err) := ⟨err, HT.out, .inl ⟨he, rfl, rfl, rfl⟩⟩
    have f0 := HK1.out.free 0
    have r0 := HK1.out.cell 0
    simp at r0
    clear he
    go_wp2_with fail
    exact bodyPost_ret (res_cellG Tryz.results13 rfl (HK1.out.set1 _) rfl rfl) rfl (LdEnd.none_ HE.out (HB1.out.setCell (Nat.le_refl _) _))
  subst he
  obtain ⟨i0, hi, hz0, hz1', hz2'⟩ := info_parts infoTgt
  have Hi := Lib.hid hi; have Hz0 := Lib.hid hz0; have Hz1 := Lib.hid hz1'; have Hz2 := Lib.hid hz2'
  clear hi hz0 hz1' hz2'
  obtain ⟨W2, hW2⟩ : ∃ W2, w1.alloc (.map #[] 0) = W2 := ⟨_, rfl⟩
  obtain ⟨W3, hW3⟩ : ∃ W3, W2.alloc (.cells #[.slice none 0 0] 27) = W3 := ⟨_, rfl⟩
  have zW2 : W2.heap.size = w1.heap.size + 1 := by rw [← hW2]; simp
  have zW3 : W3.heap.size = w1.heap.size + 2 := by rw [← hW3]; simp [zW2]
  have HM0 : Hid (Rm W3 Tryz.prog 9 w1.heap.size 0 (pG ((fs.take 0).map Prod.fst))) := by
    rw [← hW3, ← hW2]
    have := Rm.made w1 Tryz.prog 9
    rw [show (fun _ => none : ByteArray → Option Value) = pG [] from pG_nil.symm] at this
    exact this.alloc _
  have HG0 : Hid (Bk W3 (w1.heap.size + 1) 27 #[.slice none 0 0]) := by
    rw [← hW3]
    have := Bk.new W2 27 #[.slice none 0 0]
    rwa [zW2] at this
  have HB3 : Hid (Below w1.heap.size w1 W3) := by rw [← hW3, ← hW2]; exact ((Below.refl _ w1).alloc (Nat.le_refl _) _).alloc (by simp) _
  go_wp2_with fail
  clear hW2 hW3
  go_loopw [26] (fun i wr => ∃ (k : Nat) (Ag : Option Addr) (kg cg : Nat) (rs : List Tg), i = .int .i64 (k : Int) ∧ k ≤ n ∧ kg ≤ 100 * k ∧ Hid (Rm wr Tryz.prog 9 w1.heap.size k (pG ((fs.take k).map Prod.fst))) ∧ Hid (Bk wr (w1.heap.size + 1) 27 #[.slice Ag kg cg]) ∧ Hid (wr.ownsRow (w1.heap.size + 2) 35 4 (.slice Ag kg cg) kg (flat tgC rs)) ∧ Hid (∀ t ∈ rs, TgX wr 0 t) ∧ Hid (GatP fs k (rs.map ct)) ∧ Hid (Below w1.heap.size w1 wr)) (fun i _ => n - (intOf i).toNat)
  case atStart => exact ⟨0, none, 0, 0, [], rfl, Nat.zero_le _, Nat.zero_le _, HM0.out, HG0.out, World.ownsRow_nil _ _ _ _, (fun t h => by cases h), GatP.start fs, HB3.out⟩
  case round =>
    obtain ⟨k, Ag, kg, cg, rs, rfl, hk, hkg, hM, hG, hO, hX, hP, hBel⟩ := hrel
    have zwr : w1.heap.size + 1 < wr.heap.size := hG.out.lt
    have HK2 := Lib.hid (HK1.out.below hBel.out zw1)
    by_cases hlt : k < n
    · have HBw : Hid (Below w.heap.size w wr) := HB1.out.trans (hBel.out.mono (by omega))
      obtain ⟨bb, off, f, rfl, hbB, hf, y0, y1⟩ := (H0.out.below HBw.out hB).fl hlt
      have hlz : (k : Int) < (n : Int) := by omega
      have hfz := HSZ.out f (List.mem_of_getElem? hf)
      have HF := Lib.hid hf
      have HTK : Hid ((fs.take (k + 1)).map Prod.fst = (fs.take k).map Prod.fst ++ [f.1]) := by show _ = _; rw [take_snoc hf]; simp
      obtain ⟨wb, hwb⟩ : ∃ wb, wr.alloc (.cells #[.string f.1, .string f.2] 42) = wb := ⟨_, rfl⟩
      have HBb : Hid (Below wr.heap.size wr wb) := by rw [← hwb]; exact (Below.refl _ wr).alloc (Nat.le_refl _) _
      have HKb : Hid (Bk wb wr.heap.size 42 #[.string f.1, .string f.2]) := by rw [← hwb]; exact Bk.new wr _ _
      have zwb : wb.heap.size = wr.heap.size + 1 := by rw [← hwb]; simp
      have HMb := Lib.hid (hM.out.below HBb.out (by omega))
      have x0 := HKb.out.cell 0
      simp at x0
      have hfm : f.1.size ≤ maxLen := by unfold maxLen; omega
      rw [← hwb] at x0
      have HWb := Lib.hid hwb
      clear hf hwb
      go_wp2_with (at_mapUpdate; refine halt_ ?_)
      refine unhalt ?_
      rw [HWb.out]
      refine wpList_put_rm rfl _ _ _ 66 rfl 9 4 Tryz.underlying9 Tryz.underlying66 w1.heap.size k _ rfl HMb.out (by unfold maxLen; omega) f.1 hfm _ rfl rfl ?_
      intro w4 hM4 hg4
      replace hM4 : Rm w4 Tryz.prog 9 w1.heap.size (k + 1) (upd (pG ((fs.take k).map Prod.fst)) f.1 (.bool true)) := hM4
      rw [← pG_snoc, ← HTK.out] at hM4
      have HM4 := Lib.hid hM4
      have zw4 := hg4.size
      have HK4 := Lib.hid (HKb.out.grown hg4 (by simp; omega))
      have HG4 := Lib.hid ((hG.out.below HBb.out (by omega)).grown hg4 (by simp))
      have HR4 := Lib.hid ((HK2.out.below HBb.out (by omega)).grown hg4 (by simp; omega))
      have HO4 : Hid (w4.ownsRow (w1.heap.size + 2) 35 4 (.slice Ag kg cg) kg (flat tgC rs)) := own_keep hO.out (fun j hj => by
        obtain ⟨h1, cur, h2⟩ := own_row hO.out hj
        have hj2 := (Array.getElem?_eq_some_iff.1 h2).1
        exact (hg4.block j (by omega) (by simp; omega)).trans (HBb.out.block j hj2))
      have HX4 : Hid (∀ t ∈ rs, TgX w4 0 t) := fun t ht => ((hX.out t ht).below_ HBb.out).map_ HMb.out hg4
      have HB4 : Hid (Below w1.heap.size w1 w4) := (hBel.out.trans (HBb.out.mono (by omega))).grown hg4 (by omega) (fun q e => by cases e; omega)
      clear hM4 hg4 x0
      have x0 := HK4.out.cell 0; have x1 := HK4.out.cell 1
      simp at x0 x1
      have HDR : Hid (∀ q, Calls Tryz.prog 48 #[.string f.1] (w4.drewN q) fun e w' => e = .returned (.string (dirS f.1)) ∧ w' = w4.drewN q) := fun q => (directory_any f.1 (w4.drewN q) (by omega)).mono fun e w' h => ⟨h.1, h.2.symm⟩
      have HBP : Hid (∀ q, Calls Tryz.prog 47 #[.string (dirS f.1)] (w4.drewN q) fun e w' => e = .returned (.string (bldS (dirS f.1))) ∧ w' = w4.drewN q) := fun q => (buildPath_any (dirS f.1) (w4.drewN q) (by have := dir_size f.1; omega)).mono fun e w' h => ⟨h.1, h.2.symm⟩
      have hse := str_dec f.1 (bldS (dirS f.1))
      cases hbl : bldB f.1 with
      | false =>
        have HP2 := Lib.hid (hP.out.skip HF.out hbl)
        unfold bldB at hbl
        rw [hbl] at hse
        clear hbl
        generalize dirS f.1 = dd at *
        generalize bldS dd = bd at *
        go_wp2_with fail
        go_quiet (first | (go_at_call 48; exact Calls.quiet_of_same (HDR.out _)) | (go_at_call 47; exact Calls.quiet_of_same (HBP.out _)))
        go_wp2_with fail
        go_roundw
        case rel => exact ⟨k + 1, Ag, kg, cg, rs, by go_num, hlt, by omega, HM4.out.drewN _, HG4.out.drewN _, own_drewN HO4.out _, (fun t ht => (HX4.out t ht).drewN _), HP2.out, below_drewN HB4.out _⟩
        case measure => simp [intOf]; omega
      | true =>
        have hbl2 := Lib.hid hbl
        unfold bldB at hbl
        rw [hbl] at hse
        clear hbl
        have HLF := Lib.hid (loadFile_any f)
        generalize dirS f.1 = dd at *
        generalize bldS dd = bd at *
        go_wp2_with fail
        go_quiet (first | (go_at_call 48; exact Calls.quiet_of_same (HDR.out _)) | (go_at_call 47; exact Calls.quiet_of_same (HBP.out _)))
        obtain ⟨w5, hw5⟩ : ∃ w5, w4.drewN nq = w5 := ⟨_, rfl⟩
        have HM5 : Hid (Rm w5 Tryz.prog 9 w1.heap.size (k + 1) (pG ((fs.take (k + 1)).map Prod.fst))) := by rw [← hw5]; exact HM4.out.drewN _
        have HK5 : Hid (Bk w5 wr.heap.size 42 #[.string f.1, .string f.2]) := by rw [← hw5]; exact HK4.out.drewN _
        have HG5 : Hid (Bk w5 (w1.heap.size + 1) 27 #[.slice Ag kg cg]) := by rw [← hw5]; exact HG4.out.drewN _
        have HR5 : Hid (Bk w5 w.heap.size 27 #[.slice none 0 0]) := by rw [← hw5]; exact HR4.out.drewN _
        have HO5 : Hid (w5.ownsRow (w1.heap.size + 2) 35 4 (.slice Ag kg cg) kg (flat tgC rs)) := by rw [← hw5]; exact own_drewN HO4.out _
        have HX5 : Hid (∀ t ∈ rs, TgX w5 0 t) := by rw [← hw5]; exact fun t ht => (HX4.out t ht).drewN _
        have HB5 : Hid (Below w1.heap.size w1 w5) := by rw [← hw5]; exact below_drewN HB4.out _
        have zw5 : wb.heap.size ≤ w5.heap.size := by rw [← hw5]; exact zw4
        rw [hw5]
        clear hw5 x0 x1 HM4 HK4 HG4 HR4 HO4 HX4 HB4 HDR HBP hse y0 y1
        have x0 := HK5.out.cell 0; have x1 := HK5.out.cell 1
        simp at x0 x1
        go_wp2_with (go_at_call 49; refine (HLF.out w5 (by omega) (by omega)).mono ?_; rintro e w6 ⟨A6, n6, c6, qs, err6, rfl, hs6, hx6, hnc6, hcm6, hlf6, hb6⟩; refine halt_ ?_)
        refine unhalt ?_
        have HLR := Lib.hid hlf6
        have HK6 := Lib.hid (HK5.out.below hb6 (by omega))
        have HG6 := Lib.hid (HG5.out.below hb6 (by omega))
        have HR6 := Lib.hid (HR5.out.below hb6 (by omega))
        have HM6 := Lib.hid (HM5.out.below hb6 (by omega))
        have HO6 : Hid (w6.ownsRow (w1.heap.size + 2) 35 4 (.slice Ag kg cg) kg (flat tgC rs)) := own_keep HO5.out (fun j hj => by
          obtain ⟨h1, cur, h2⟩ := own_row HO5.out hj
          exact hb6.block j (Array.getElem?_eq_some_iff.1 h2).1)
        have HX6 : Hid (∀ t ∈ rs, TgX w6 0 t) := fun t ht => (HX5.out t ht).below_ hb6
        have HB6 : Hid (Below w1.heap.size w1 w6) := HB5.out.trans (hb6.mono (by omega))
        have HS6 := Lib.hid hs6; have HQ6 := Lib.hid hx6
        have zw6 := hb6.size
        clear hlf6 hs6 hx6 hb6 HLF x0 x1
        by_cases he6 : err6 = 0
        · subst he6
          have hok6 := lfR_ok HLR.out
          have hqn : n6 ≤ 100 := by
            have h1 := hok6.few
            rw [List.length_map, HS6.out.len tgC_len (by omega)] at h1
            exact h1
          have HP6 := Lib.hid (hP.out.add HF.out hbl2.out HLR.out)
          rw [← List.map_append] at HP6
          have g0 := HG6.out.cell 0
          simp at g0
          have gf := HG6.out.free 0
          clear hok6
          go_wp2_with (at_builtin; refine halt_apx (.tmp 52) (.tmp 53) 25 rfl ?_)
          refine unhalt ?_
          refine wpList_append_sl (base := w1.heap.size + 2) (size := 4) _ rfl (.tmp 52) (.tmp 53) 25 rfl 35 i0 _ 72 Tryz.underlying25 Hi.out Hz0.out Hz1.out Hz2.out rfl (by decide) (.slice Ag kg cg) kg (flat tgC rs) rfl HO6.out w6.heap.size _ n6 c6 (flat tgC qs) rfl HS6.out ?_ ?_ ?_ ?_ ?_
          · intro u hu
            obtain ⟨t, _, hu⟩ := List.mem_flatMap.1 hu
            simp only [tgC, List.mem_cons, List.mem_nil_iff, or_false] at hu
            rcases hu with rfl | rfl | rfl | rfl <;> rfl
          · unfold maxLen; omega
          · omega
          · omega
          intro A7 c7 w7 ho7 hg7 hc71 hc72
          have hgs : ∀ {k : Nat}, (Value.slice Ag kg cg).ownBlock = some k → w1.heap.size + 2 ≤ k ∧ ∃ cur, w6.heap[k]? = some (Obj.cells cur 35 (0, 0)) := fun hk => own_row HO6.out hk
          have HO7 : Hid (w7.ownsRow (w1.heap.size + 2) 35 4 (.slice A7 (kg + n6) c7) (kg + n6) (flat tgC (rs ++ qs))) := by show World.ownsRow _ _ _ _ _ _ _; rw [flat_append]; exact ho7
          have hne : ∀ j, j < w1.heap.size + 2 → some j ≠ (Value.slice Ag kg cg).ownBlock := fun j hj e => by
            have := (hgs e.symm).1; omega
          have HG7 := Lib.hid (HG6.out.grown hg7 (hne _ (by omega)))
          have HM7 := Lib.hid (HM6.out.kept hg7 (hne _ (by omega)))
          have HX7 : Hid (∀ t ∈ rs ++ qs, TgX w7 0 t) := fun t ht => by
            rcases List.mem_append.1 ht with ht | ht
            · exact (HX6.out t ht).row_ HO6.out hg7
            · exact (HQ6.out t ht).row_ HO6.out hg7
          have HB7 : Hid (Below w1.heap.size w1 w7) := HB6.out.grown hg7 (by omega) (fun q e => by have := (hgs e).1; omega)
          have gf7 := HG7.out.free 0
          have g7 := HG7.out.cell 0
          simp at g7
          have zw7 := hg7.size
          clear ho7 hg7 hgs hne g0 gf
          go_wp2_with fail
          go_roundw
          case rel => exact ⟨k + 1, A7, kg + n6, c7, rs ++ qs, by go_num, hlt, by omega, HM7.out.setc (by show w1.heap.size ≠ w1.heap.size + 1; omega), HG7.out.set1 _, ownsRow_setCell_below HO7.out (by show w1.heap.size + 1 < _; omega) _, (fun t ht => (HX7.out t ht).box_ HG7.out _), HP6.out, HB7.out.setCell (by show w1.heap.size ≤ w1.heap.size + 1; omega) _⟩
          case measure => simp [intOf]; omega
        · have he' : (err6 != 0) = true := by simpa using he6
          have hcs : qs = [] := by
            rcases HLR.out with ⟨_, h, _⟩ | ⟨_, _, _, _, _, ⟨_, h, _⟩ | ⟨_, _, h, _⟩ | ⟨_, _, _, h⟩⟩
            · simpa using h
            · simpa using h
            · simpa using h
            · exact absurd h he6
          have HE : Hid (LdR fs [] f.1 err6) := ⟨0, HT.out, .inr ⟨rfl, .inl ⟨f.1, err6, hP.out.bad HF.out hbl2.out HLR.out he6, rfl, rfl, rfl⟩⟩⟩
          have x0 := HK6.out.cell 0; have f0 := HR6.out.free 0; have r0 := HR6.out.cell 0
          simp at x0 r0
          clear he6 hcs
          go_wp2_with fail
          go_region
          go_wp2_with fail
          exact bodyPost_ret (res_cellG Tryz.results13 rfl ((HR6.out.drewN _).set1 _) rfl rfl) rfl (LdEnd.none_ HE.out ((below_drewN (HB1.out.trans (HB6.out.mono (by omega))) _).setCell (Nat.le_refl _) _))
    · have hlz : ¬ (k : Int) < (n : Int) := by omega
      have HGT : Hid (Gat fs (.inl (rs.map ct))) := hP.out.done (by rw [HL.out]; omega)
      have hrl := own_len hO.out
      have hkg2 : kg ≤ 100000 := by omega
      have HBw : Hid (Below w.heap.size w wr) := HB1.out.trans (hBel.out.mono (by omega))
      have g0 := hG.out.cell 0
      simp at g0
      by_cases hbig : 100 < kg
      · have hbz : (100 : Int) < (kg : Int) := by omega
        have HE : Hid (LdR fs [] ⟨#[]⟩ 4) := ⟨0, HT.out, .inr ⟨rfl, .inr ⟨_, HGT.out, .inl ⟨by rw [List.length_map, hrl]; exact hbig, rfl, rfl, rfl⟩⟩⟩⟩
        have f0 := HK2.out.free 0
        have r0 := HK2.out.cell 0
        simp at r0
        go_wp2_with fail
        exact bodyPost_ret (res_cellG Tryz.results13 rfl (HK2.out.set1 _) rfl rfl) rfl (LdEnd.none_ HE.out (HBw.out.setCell (Nat.le_refl _) _))
      have hbz : ¬ (100 : Int) < (kg : Int) := by omega
      have HST := Lib.hid (sortTgt_any (w1.heap.size + 2) kg cg Ag rs wr hO.out (by omega))
      go_wp2_with (go_at_call 50; refine HST.out.mono ?_; rintro e w2 ⟨rfl, us, hp, hs, ho2, hg2⟩; refine halt_ ?_)
      refine unhalt ?_
      have hgs : ∀ {k : Nat}, (Value.slice Ag kg cg).ownBlock = some k → w1.heap.size + 2 ≤ k ∧ ∃ cur, wr.heap[k]? = some (Obj.cells cur 35 (0, 0)) := fun hk => own_row hO.out hk
      have hne : ∀ j, j < w1.heap.size + 2 → some j ≠ (Value.slice Ag kg cg).ownBlock := fun j hj e => by
        have := (hgs e.symm).1; omega
      have HG2 := Lib.hid (hG.out.grown hg2 (hne _ (by omega)))
      have HM2 := Lib.hid (hM.out.kept hg2 (hne _ (by omega)))
      have HR2 := Lib.hid (HK2.out.grown hg2 (hne _ (by omega)))
      have HO2 := Lib.hid ho2
      have HX2 : Hid (∀ t ∈ us, TgX w2 0 t) := fun t ht => (hX.out t (hp.mem_iff.1 ht)).row_ hO.out hg2
      have HB2 : Hid (Below w1.heap.size w1 w2) := hBel.out.grown hg2 (by omega) (fun q e => by have := (hgs e).1; omega)
      have HGO : Hid (GatOk fs (rs.map ct)) := HGT.out.ok HT.out.asc.nodup _ rfl
      have HLS : Hid (∀ t ∈ us, t.lab.size ≤ 600) := fun t ht => HGO.out.size (fun f hf => (HSZ.out f hf).1) (ct t) (List.mem_map_of_mem (hp.mem_iff.1 ht))
      have HDM : Hid (∀ t ∈ us, t.deps.length ≤ 20) := fun t ht => HGO.out.few (ct t) (List.mem_map_of_mem (hp.mem_iff.1 ht))
      have HLD : Hid (∀ vs wh err, LdT (fs.map Prod.fst) (us.map ct) vs wh err → LdR fs vs wh err) := fun vs wh err h => ⟨0, HT.out, .inr ⟨rfl, .inr ⟨_, HGT.out, .inr ⟨by rw [List.length_map, hrl]; omega, us.map ct, hp.map ct, srtC_of hs, h⟩⟩⟩⟩
      have HTK : Hid ((fs.take k).map Prod.fst = fs.map Prod.fst) := by show _ = _; rw [List.take_of_length_le (by rw [HL.out]; omega)]
      rw [HTK.out] at HM2
      have hul := own_len HO2.out
      have HS2 : Hid (Sl w2 w2.heap.size 4 Ag kg (flat tgC us)) := Sl.of_own HO2.out
      have HOK2 : Hid (∀ t ∈ us, TgOk w2 w2.heap.size t) := fun t ht => (HX2.out t ht).ok
      have zw2 := hg2.size
      clear hM hG hO hX hP hBel HK2 g0 hg2 ho2 hs hp hgs hne HGO HGT HST HBw hrl HTK
      have g0 := HG2.out.cell 0
      simp at g0
      have HIX := Lib.hid (index_any Ag kg cg w2.heap.size us w2 HS2.out (Nat.le_refl _) (by omega) (fun t ht => (HOK2.out t ht).ls))
      go_wp2_with (go_at_call 53; refine HIX.out.mono ?_; rintro e w3 ⟨rfl, hI, hb3⟩; refine halt_ ?_)
      refine unhalt ?_
      have HI := Lib.hid hI; have HB3 := Lib.hid hb3
      have zI : w2.heap.size < w3.heap.size := hI.lt
      have HG3 := Lib.hid (HG2.out.below hb3 HG2.out.lt)
      have HGl : Hid (w1.heap.size + 1 < w2.heap.size) := HG2.out.lt
      have HRl : Hid (w.heap.size < w2.heap.size) := HR2.out.lt
      have HMl : Hid (w1.heap.size < w2.heap.size) := HM2.out.lt
      clear hI hb3 HIX g0
      have g0 := HG3.out.cell 0
      simp at g0
      have HLz := HGl.out; have HLy := HRl.out; have HLx := HMl.out
      go_wp2_with fail
      go_loopw [71] (fun i wr => ∃ j : Nat, i = .int .i64 (j : Int) ∧ j ≤ kg ∧ Hid (∀ d ∈ us.take j, ctE (fs.map Prod.fst) us d = 0) ∧ Hid (Below w3.heap.size w3 wr)) (fun i _ => kg - (intOf i).toNat)
      case atStart => exact ⟨0, rfl, Nat.zero_le _, (fun d h => by simp at h), Below.refl _ _⟩
      case round =>
        obtain ⟨j, rfl, hj, hD, hbw⟩ := hrel
        have HBr : Hid (Below w2.heap.size w2 wr) := HB3.out.trans (hbw.out.mono (by omega))
        have zwr := hbw.out.size
        by_cases hjt : j < kg
        · have hlz2 : (j : Int) < (kg : Int) := by omega
          obtain ⟨bb, off, t, rfl, hbB, ht, y0, y1, y2, y3⟩ := (HS2.out.below HBr.out (Nat.le_refl _)).tg hjt
          have HTt := Lib.hid ht
          have htm := Lib.hid (List.mem_of_getElem? ht)
          obtain ⟨wb, hwb⟩ : ∃ wb, wr.alloc (.cells #[.string t.lab, .int .i64 t.kind, .slice t.dA t.dn t.dc, .slice t.vA t.vn t.vc] 35) = wb := ⟨_, rfl⟩
          have HBb : Hid (Below wr.heap.size wr wb) := by rw [← hwb]; exact (Below.refl _ wr).alloc (Nat.le_refl _) _
          have HKb : Hid (Bk wb wr.heap.size 35 #[.string t.lab, .int .i64 t.kind, .slice t.dA t.dn t.dc, .slice t.vA t.vn t.vc]) := by rw [← hwb]; exact Bk.new wr _ _
          have zwb : wb.heap.size = wr.heap.size + 1 := by rw [← hwb]; simp
          have HB2b : Hid (Below w2.heap.size w2 wb) := HBr.out.trans (HBb.out.mono (by omega))
          have HCK := Lib.hid (checkTarget_any w1.heap.size w2.heap.size k kg w2.heap.size (fs.map Prod.fst) us t wb (HM2.out.below HB2b.out HMl.out) ((HI.out.below hbw.out (by omega)).below HBb.out (by omega)) ((HOK2.out t htm.out).below HB2b.out (Nat.le_refl _)) (fun o ho => (HOK2.out o ho).below HB2b.out (Nat.le_refl _)) (by omega) (by have := HLS.out t htm.out; omega) (fun o ho => by have := HLS.out o ho; omega))
          obtain ⟨ev, hev⟩ : ∃ ev, ctE (fs.map Prod.fst) us t = ev := ⟨_, rfl⟩
          rw [hev] at HCK
          have HEV := Lib.hid hev
          unfold tgV at HCK
          have x0 := HKb.out.cell 0; have x1 := HKb.out.cell 1; have x2 := HKb.out.cell 2; have x3 := HKb.out.cell 3
          simp at x0 x1 x2 x3
          rw [← hwb] at x0 x1 x2 x3
          have HWb := Lib.hid hwb
          clear ht hwb hev
          obtain ⟨lab, kind, dA, dn, dc, deps, vA, vn, vc, vis⟩ := t
          simp only at x0 x1 x2 x3 y0 y1 y2 y3 HWb HKb HCK HTt HEV htm
          go_wp2_with fail
          rw [HWb.out]
          refine HCK.out.mono ?_
          rintro e w5 ⟨rfl, hb5⟩
          have HK5 := Lib.hid (HKb.out.below hb5 (by omega))
          have HB25 : Hid (Below w2.heap.size w2 w5) := HB2b.out.trans (hb5.mono HB2b.out.size)
          have HB35 : Hid (Below w3.heap.size w3 w5) := hbw.out.trans ((HBb.out.trans (hb5.mono (by omega))).mono zwr)
          clear hb5 HCK x0 x1 x2 x3 y0 y1 y2 y3
          by_cases he5 : ev = 0
          · subst he5
            have HD2 : Hid (∀ d ∈ us.take (j + 1), ctE (fs.map Prod.fst) us d = 0) := fun d hd => by
              rw [take_snoc HTt.out] at hd
              rcases List.mem_append.1 hd with hd | hd
              · exact hD.out d hd
              · rw [List.mem_singleton.1 hd]; exact HEV.out
            go_wp2_with fail
            go_roundw
            case rel => exact ⟨j + 1, by go_num, hjt, HD2.out, HB35.out⟩
            case measure => simp [intOf]; omega
          · have he5' : (ev != 0) = true := by simpa using he5
            have HE : Hid (LdR fs [] lab ev) := HLD.out _ _ _ (ldT_bad HTt.out hD.out HEV.out he5)
            have x0 := HK5.out.cell 0; simp at x0
            have HR5 := Lib.hid (HR2.out.below HB25.out HRl.out)
            have f0 := HR5.out.free 0
            have r0 := HR5.out.cell 0
            simp at r0
            have HBw5 : Hid (Below w.heap.size w w5) := (HB1.out.trans (HB2.out.mono (by omega))).trans (HB25.out.mono (by omega))
            clear he5
            go_wp2_with fail
            go_region
            go_wp2_with fail
            exact bodyPost_ret (res_cellG Tryz.results13 rfl ((HR5.out.drewN _).set1 _) rfl rfl) rfl (LdEnd.none_ HE.out ((below_drewN HBw5.out _).setCell (Nat.le_refl _) _))
        · have hlz2 : ¬ (j : Int) < (kg : Int) := by omega
          have HALL : Hid (∀ d ∈ us, ctE (fs.map Prod.fst) us d = 0) := fun d hd => hD.out d (by rw [List.take_of_length_le (by omega)]; exact hd)
          have HCY := Lib.hid (cycle_any Ag kg cg w2.heap.size 1000 us wr (HS2.out.below HBr.out (Nat.le_refl _)) (fun t ht => (HOK2.out t ht).below HBr.out (Nat.le_refl _)) HBr.out.size (by omega) (fun t ht => by have := HDM.out t ht; omega) (by omega))
          have g1 := (HG3.out.below hbw.out (by omega)).cell 0
          simp at g1
          go_wp2_with (go_at_call 20; refine HCY.out.mono ?_; rintro e w5 ⟨A5, m5, c5, l5, rfl, hs5, hc5, hb5⟩; refine halt_ ?_)
          refine unhalt ?_
          have hl5 : l5.length = m5 := by have := hs5.1; rw [strs_len] at this; omega
          have HB25 : Hid (Below w2.heap.size w2 w5) := HBr.out.trans (hb5.mono HBr.out.size)
          have HR5 := Lib.hid (HR2.out.below HB25.out HRl.out)
          have HG5 := Lib.hid (HG2.out.below HB25.out HGl.out)
          have f0 := HR5.out.free 0
          have r0 := HR5.out.cell 0
          simp at r0
          have HBw5 : Hid (Below w.heap.size w w5) := (HB1.out.trans (HB2.out.mono (by omega))).trans (HB25.out.mono (by omega))
          have HS5 := Lib.hid hs5; have HC5 := Lib.hid hc5.toR
          clear hs5 hc5 hb5 HCY g1
          have g1 := HG5.out.cell 0
          simp at g1
          cases l5 with
          | nil =>
            obtain rfl : m5 = 0 := hl5.symm
            have HE : Hid (LdR fs (us.map ct) ⟨#[]⟩ 0) := HLD.out _ _ _ (ldT_ok HALL.out HC5.out)
            have HO5 : Hid (w5.ownsRow (w1.heap.size + 2) 35 4 (.slice Ag kg cg) kg (flat tgC us)) := own_keep HO2.out (fun j hj => by
              obtain ⟨h1, cur, h2⟩ := own_row HO2.out hj
              exact HB25.out.block j (Array.getElem?_eq_some_iff.1 h2).1)
            have HX5 : Hid (∀ t ∈ us, TgX w5 0 t) := fun t ht => (HX2.out t ht).below_ HB25.out
            have hkcm : kg ≤ cg ∧ cg ≤ maxLen := by
              obtain ⟨A6, c6, hf6, h1, h2⟩ := ownsRow_form HO5.out
              injection hf6 with _ _ hf6
              omega
            clear hl5
            go_wp2_with fail
            exact bodyPost_ret (res_cellG Tryz.results13 rfl (HR5.out.set1 _) rfl rfl) rfl ⟨Ag, kg, cg, us, _, 0, rfl, Sl.of_own (ownsRow_setCell_below HO5.out (by show w.heap.size < _; omega) _), (fun t ht => ((HX5.out t ht).box_ HR5.out _).ok), hkcm.1, hkcm.2, HE.out, HBw5.out.setCell (Nat.le_refl _) _⟩
          | cons x xs =>
            have hm5 : 0 < m5 := by rw [← hl5]; simp
            have HE : Hid (LdR fs [] x 23) := HLD.out _ _ _ (ldT_cyc HALL.out HC5.out)
            obtain ⟨cb, co, x', rfl, hcb, hx', q0⟩ := HS5.out.str_at hm5
            obtain rfl : x' = x := by simp at hx'; exact hx'.symm
            have hm5z : (0 : Int) < (m5 : Int) := by omega
            simp only [Nat.add_zero] at q0
            have q1 : (w5.setCell ⟨w.heap.size, 0, none⟩ (.slice none 0 0)).cell? ⟨cb, co, none⟩ = some (.string x') := by
              refine (World.cell?_setCell_other _ _ _ _ fun e => ?_).trans q0
              rw [← e, r0] at q0
              cases q0
            clear hx' hl5 hm5
            go_wp2_with fail
            go_region
            go_wp2_with fail
            exact bodyPost_ret (res_cellG Tryz.results13 rfl ((HR5.out.drewN _).set1 _) rfl rfl) rfl (LdEnd.none_ HE.out ((below_drewN HBw5.out _).setCell (Nat.le_refl _) _))
end Go.Proofs.YtddlohbhchjjhaaGreatDoor

namespace Go.Proofs.YtddlohbhchjjhaaGreatDoor
open Go.RowKit Go.Maps
attribute [local go_sem] Oper.semAt_some

theorem rch_users {nx lu : ByteArray → List ByteArray} (inv : ∀ d x, x ∈ lu d ↔ d ∈ nx x) {a b : ByteArray} : Rch lu a b ↔ Rch nx b a := by
  constructor
  · rintro ⟨n, h⟩
    have : ∀ {n : Nat} {a b : ByteArray}, Stp lu n b a → Stp nx n a b := by
      intro n
      induction n with
      | zero => intro a b h; exact (inv b a).1 h
      | succ n ih => rintro a b ⟨c, hc, hb⟩; exact Stp.cons ((inv c a).1 hb) (ih hc)
    exact ⟨n, this h⟩
  · rintro ⟨n, h⟩
    exact ⟨n, stp_rev inv h⟩
end Go.Proofs.YtddlohbhchjjhaaGreatDoor

namespace Go.Proofs.YtddlohbhchjjhaaGreatDoor
open Go.RowKit Go.Shelf

set_option maxHeartbeats 400000 in
theorem rletter_any (c : Int) (w : World) : Calls Tryz.prog 195 #[.int .u8 c] w fun e w' => e = .returned (.bool (ltrI c)) ∧ w = w' := by
  go_enter Tryz.func195, Tryz.ntmps195
  go_wp2
  all_goals (go_ret; refine ⟨ret_bool ?_, rfl⟩; rw [Bool.eq_iff_iff]; simp [ltrI]; try omega)
set_option maxHeartbeats 400000 in
theorem rdigit_any (c : Int) (w : World) : Calls Tryz.prog 196 #[.int .u8 c] w fun e w' => e = .returned (.bool (dgtI c)) ∧ w = w' := by
  go_enter Tryz.func196, Tryz.ntmps196
  go_wp2
  all_goals (go_ret; refine ⟨ret_bool ?_, rfl⟩; rw [Bool.eq_iff_iff]; simp [dgtI]; try omega)

def slashL : List UInt8 → Nat
  | [] => 0
  | c :: r => if c = 47 then 0 else slashL r + 1
theorem slashL_le : ∀ l : List UInt8, slashL l ≤ l.length
  | [] => Nat.le_refl _
  | c :: r => by simp only [slashL]; split; simp; have := slashL_le r; simp; omega
theorem slashL_at : ∀ {l : List UInt8} {k : Nat}, (∀ j, j < k → l[j]? ≠ some 47) → k ≤ l.length → (k = l.length ∨ l[k]? = some 47) → slashL l = k
  | [], k, _, h, _ => by simp at h; simp [slashL, h]
  | c :: r, 0, _, _, h3 => by
    rcases h3 with h3 | h3
    · simp at h3
    · simp at h3; simp [slashL, h3]
  | c :: r, k + 1, h1, h2, h3 => by
    have hc : c ≠ 47 := fun e => h1 0 (by omega) (by simp [e])
    simp only [slashL, if_neg hc]
    rw [slashL_at (k := k) (fun j hj => by have := h1 (j + 1) (by omega); simpa using this) (by simp at h2; omega) (by
      rcases h3 with h3 | h3
      · left; simp at h3; omega
      · right; simpa using h3)]
theorem splitS_slash : ∀ (l : List UInt8), splitS l = if slashL l < l.length then l.take (slashL l) :: splitS (l.drop (slashL l + 1)) else [l]
  | [] => rfl
  | c :: r => by
    by_cases hc : c = 47
    · subst hc; simp [splitS, slashL]
    · have ih := splitS_slash r
      simp only [splitS, slashL, if_neg hc]
      rw [ih]
      by_cases h : slashL r < r.length
      · rw [if_pos h, if_pos (by simp; exact h)]; simp
      · rw [if_neg h, if_neg (by simp; omega)]

set_option maxHeartbeats 1000000 in
theorem rslash_any (s : ByteArray) (w : World) (hs : s.size ≤ maxLen) :
    Calls Tryz.prog 152 #[.string s] w fun e w' => e = .returned (.int .i64 (slashL (bl s) : Nat)) ∧ w = w' := by
  unfold maxLen at hs
  have HL := Lib.hid (size_len s)
  go_enter Tryz.func152, Tryz.ntmps152
  go_wp2
  go_loop [3] (fun i => ∃ k : Nat, k ≤ s.size ∧ i = .int .i64 k ∧ Hid (∀ j, j < k → (bl s)[j]? ≠ some 47)) (fun i => s.size - (intOf i).toNat)
  case atStart => exact ⟨0, Nat.zero_le _, rfl, fun j h => absurd h (by omega)⟩
  case round =>
    obtain ⟨k, hk, rfl, hN⟩ := hrel
    by_cases hlt : k < s.size
    · have hg := Lib.hid (get_data s k hlt)
      have hlz : (k : Int) < (s.size : Int) := by omega
      by_cases h47 : s[k] = 47
      · have t1 : (((s[k].toNat : Nat) : Int) != 47) = false := by simp [h47]
        have HF : Hid (slashL (bl s) = k) := slashL_at hN.out (by unfold bl; rw [← HL.out]; exact hk) (.inr (by show s.data.toList[k]? = _; rw [hg.out, h47]))
        clear h47
        go_wp2
        go_ret
        exact ⟨by rw [HF.out]; rfl, rfl⟩
      · have t1 : (((s[k].toNat : Nat) : Int) != 47) = true := by
          rw [bne_iff_ne]; intro e
          apply h47
          apply UInt8.toNat_inj.1
          show s[k].toNat = 47
          omega
        have HF : Hid (∀ j, j < k + 1 → (bl s)[j]? ≠ some 47) := fun j hj => by
          by_cases e : j = k
          · subst e; show s.data.toList[j]? ≠ _; rw [hg.out]; intro e2; exact h47 (Option.some.inj e2)
          · exact hN.out j (by omega)
        clear h47
        go_wp2
        go_round
        case rel => exact ⟨k + 1, hlt, by go_num, HF.out⟩
        case measure => simp [intOf]; omega
    · have hlz : ¬ (k : Int) < (s.size : Int) := by omega
      have HF : Hid (slashL (bl s) = k) := slashL_at hN.out (by unfold bl; rw [← HL.out]; exact hk) (.inl (by unfold bl; rw [← HL.out]; omega))
      go_wp2
      go_ret
      exact ⟨by rw [HF.out]; rfl, rfl⟩

set_option maxHeartbeats 2000000 in
theorem rword_any (s : ByteArray) (w : World) (hs : s.size ≤ maxLen) :
    Calls Tryz.prog 153 #[.string s, .int .i64 20] w fun e w' => e = .returned (.bool (partB s)) ∧ w = w' := by
  unfold maxLen at hs
  have HL := Lib.hid (size_len s)
  by_cases c0 : (s.size : Int) < 1
  · have hv : Hid (partB s = false) := by
      show _ = _
      have : bl s = [] := List.eq_nil_of_length_eq_zero (by have := HL.out; unfold bl; omega)
      unfold partB partL; rw [this]; rfl
    go_enter Tryz.func153, Tryz.ntmps153
    go_wp2
    go_ret
    exact ⟨ret_bool hv.out.symm, rfl⟩
  by_cases c1 : 20 < (s.size : Int)
  · have hv := Lib.hid (part_long s c1)
    go_enter Tryz.func153, Tryz.ntmps153
    go_wp2
    go_ret
    exact ⟨ret_bool hv.out.symm, rfl⟩
  have HV : Hid (partB s = wordL (bl s)) := by
    show _ = _
    have := HL.out
    unfold partB partL; rw [decide_eq_true (by unfold bl; omega), Bool.true_and]
  have h0s : 0 < s.size := by omega
  have hg0 := Lib.hid (get_data s 0 h0s)
  cases hl0 : ltrI (s[0].toNat : Int) with
  | false =>
    have hv : Hid (partB s = false) := by
      show _ = _
      rw [HV.out]; exact word_bad hg0.out (by unfold okC ltrB; rw [hl0]; simp)
    have HLI := Lib.hid hl0
    clear hl0
    go_enter Tryz.func153, Tryz.ntmps153
    go_wp2_with (go_at_call 195; refine (rletter_any _ _).mono ?_; rintro e w' ⟨rfl, rfl⟩; rw [HLI.out])
    go_ret
    exact ⟨ret_bool hv.out.symm, rfl⟩
  | true =>
    have HL0 := Lib.hid hl0
    clear hl0
    go_enter Tryz.func153, Tryz.ntmps153
    go_wp2_with (go_at_call 195; refine (rletter_any _ _).mono ?_; rintro e w' ⟨rfl, rfl⟩; rw [HL0.out])
    go_loop [5] (fun i => ∃ k : Nat, k ≤ s.size ∧ i = .int .i64 k ∧ Hid (OkTo (bl s) k)) (fun i => s.size - (intOf i).toNat)
    case atStart => exact ⟨0, Nat.zero_le _, rfl, fun j c h => absurd h (by omega)⟩
    case round =>
      obtain ⟨k, hk, rfl, hO⟩ := hrel
      by_cases hlt : k < s.size
      · have hg := Lib.hid (get_data s k hlt)
        have hlz : (k : Int) < (s.size : Int) := by omega
        cases hl : ltrI (s[k].toNat : Int) with
        | true =>
          have HO2 : Hid (OkTo (bl s) (k + 1)) := hO.out.step hg.out (by unfold okC ltrB; rw [hl]; rfl)
          have HLI := Lib.hid hl
          clear hl
          go_wp2_with (go_at_call 195; refine (rletter_any _ _).mono ?_; rintro e w' ⟨rfl, rfl⟩; rw [HLI.out])
          go_round
          case rel => exact ⟨k + 1, hlt, by go_num, HO2.out⟩
          case measure => simp [intOf]; omega
        | false =>
          have hk0 : k ≠ 0 := fun e => by subst e; rw [HL0.out] at hl; cases hl
          have HLI := Lib.hid hl
          cases hd : dgtI (s[k].toNat : Int) with
          | true =>
            have HO2 : Hid (OkTo (bl s) (k + 1)) := hO.out.step hg.out (by unfold okC ltrB dgtB; rw [hl, hd]; simp [hk0])
            have HDI := Lib.hid hd
            clear hl hd
            go_wp2_with (first
              | (go_at_call 195; refine (rletter_any _ _).mono ?_; rintro e w' ⟨rfl, rfl⟩; rw [HLI.out])
              | (go_at_call 196; refine (rdigit_any _ _).mono ?_; rintro e w' ⟨rfl, rfl⟩; rw [HDI.out]))
            go_round
            case rel => exact ⟨k + 1, hlt, by go_num, HO2.out⟩
            case measure => simp [intOf]; omega
          | false =>
            have hF : Hid (partB s = false) := by
              show _ = _
              rw [HV.out]; exact word_bad hg.out (by unfold okC ltrB dgtB; rw [hl, hd]; simp)
            have HDI := Lib.hid hd
            clear hl hd
            go_wp2_with (first
              | (go_at_call 195; refine (rletter_any _ _).mono ?_; rintro e w' ⟨rfl, rfl⟩; rw [HLI.out])
              | (go_at_call 196; refine (rdigit_any _ _).mono ?_; rintro e w' ⟨rfl, rfl⟩; rw [HDI.out]))
            go_ret
            exact ⟨ret_bool hF.out.symm, rfl⟩
      · have hlz : ¬ (k : Int) < (s.size : Int) := by omega
        have hF : Hid (partB s = true) := by
          show _ = _
          rw [HV.out, wordL_iff]
          have hkl : k = (bl s).length := by have := HL.out; unfold bl; omega
          refine ⟨fun e => by rw [e] at hkl; simp at hkl; omega, ?_⟩
          have h1 := hO.out
          rwa [hkl] at h1
        go_wp2
        go_ret
        exact ⟨ret_bool hF.out.symm, rfl⟩

def szOf : Value → Nat
  | .string t => t.size
  | _ => 0
set_option maxHeartbeats 1000000 in
theorem rlabel_any (s : ByteArray) (w : World) (hs : s.size ≤ maxLen) :
    Calls Tryz.prog 99 #[.string s] w fun e w' => e = .returned (.bool (labB s)) ∧ w = w' := by
  unfold maxLen at hs
  have HL := Lib.hid (size_len s)
  by_cases c1 : 90 < (s.size : Int)
  · have hv : Hid (labB s = false) := by
      show _ = _
      have := HL.out
      unfold labB labL bl; rw [decide_eq_false (by omega), Bool.false_and]
    go_enter Tryz.func99, Tryz.ntmps99
    go_wp2_with fail
    go_ret
    exact ⟨ret_bool hv.out.symm, rfl⟩
  have HN : Hid (labB s = (splitS (bl s)).all partL) := by
    show _ = _
    have := HL.out
    unfold labB labL; rw [decide_eq_true (by unfold bl; omega), Bool.true_and]
  have hs1 : s.size ≤ 90 := by omega
  go_enter Tryz.func99, Tryz.ntmps99
  go_wp2_with (go_at_call 152; refine (rslash_any _ _ (by unfold maxLen; omega)).mono ?_; rintro e w' ⟨rfl, rfl⟩)
  go_loop [0, 3] (fun a b => ∃ (t : ByteArray), t.size ≤ 90 ∧ a = .string t ∧ b = .int .i64 (slashL (bl t) : Nat) ∧ Hid ((splitS (bl s)).all partL = (splitS (bl t)).all partL)) (fun a _ => szOf a)
  case atStart => exact ⟨s, hs1, rfl, rfl, rfl⟩
  case round =>
    obtain ⟨t, ht, rfl, rfl, hA⟩ := hrel
    have hsl := slashL_le (bl t)
    have htl := size_len t
    have htl2 : (bl t).length = t.size := htl.symm
    obtain ⟨k, hk⟩ : ∃ k, slashL (bl t) = k := ⟨_, rfl⟩
    have HSP := Lib.hid (splitS_slash (bl t))
    rw [hk] at HSP hsl ⊢
    have HK := Lib.hid hk
    clear hk htl
    rw [htl2] at hsl HSP
    have HEX : Hid (bl (t.extract 0 k) = (bl t).take k) := by show _ = _; unfold bl; rw [extract_list]; simp
    have HEY : Hid (bl (t.extract (k + 1) t.size) = (bl t).drop (k + 1)) := by
      show _ = _
      unfold bl; rw [extract_list, List.take_of_length_le (by rw [List.length_drop]; unfold bl at htl2; omega)]
    by_cases hlt : k < t.size
    · have hlz : (k : Int) < (t.size : Int) := by omega
      have HSP2 : Hid (splitS (bl t) = (bl t).take k :: splitS ((bl t).drop (k + 1))) := by show _ = _; rw [HSP.out, if_pos hlt]
      cases hp : partB (t.extract 0 k) with
      | false =>
        have hF : Hid (labB s = false) := by
          show _ = _
          rw [HN.out, hA.out, HSP2.out, List.all_cons, ← HEX.out]
          show (partB (t.extract 0 k) && _) = false
          rw [hp, Bool.false_and]
        have HP := Lib.hid hp
        clear hp
        go_wp2_with (go_at_call 153; refine (rword_any _ _ (by rw [ByteArray.size_extract]; unfold maxLen; omega)).mono ?_; rintro e w' ⟨rfl, rfl⟩; rw [HP.out])
        go_ret
        exact ⟨ret_bool hF.out.symm, rfl⟩
      | true =>
        have HA2 : Hid ((splitS (bl s)).all partL = (splitS (bl (t.extract (k + 1) t.size))).all partL) := by
          show _ = _
          rw [hA.out, HSP2.out, List.all_cons, ← HEX.out, HEY.out]
          show (partB (t.extract 0 k) && _) = _
          rw [hp, Bool.true_and]
        have hz2 : (t.extract (k + 1) t.size).size = t.size - (k + 1) := by rw [ByteArray.size_extract]; omega
        have HZ2 := Lib.hid hz2
        have HP := Lib.hid hp
        clear hp hz2
        go_wp2_with (first
          | (go_at_call 153; refine (rword_any _ _ (by rw [ByteArray.size_extract]; unfold maxLen; omega)).mono ?_; rintro e w' ⟨rfl, rfl⟩; rw [HP.out])
          | (go_at_call 152; refine (rslash_any _ _ (by rw [ByteArray.size_extract]; unfold maxLen; omega)).mono ?_; rintro e w' ⟨rfl, rfl⟩))
        go_round
        case rel => exact ⟨_, by rw [HZ2.out]; omega, rfl, rfl, HA2.out⟩
        case measure => show (t.extract (k + 1) t.size).size < t.size; rw [HZ2.out]; omega
    · have hlz : ¬ (k : Int) < (t.size : Int) := by omega
      have hF : Hid (labB s = partB t) := by
        show _ = _
        rw [HN.out, hA.out, HSP.out, if_neg hlt]; simp [partB]
      go_wp2_with (go_at_call 153; refine (rword_any _ _ (by unfold maxLen; omega)).mono ?_; rintro e w' ⟨rfl, rfl⟩)
      go_ret
      exact ⟨ret_bool hF.out.symm, rfl⟩
end Go.Proofs.YtddlohbhchjjhaaGreatDoor

namespace Go.Proofs.YtddlohbhchjjhaaGreatDoor
open Go.RowKit Go.Shelf

theorem splitS_snoc (l : List UInt8) : splitS (l ++ [47]) = splitS l ++ [[]] := by
  induction l with
  | nil => rfl
  | cons c r ih =>
    rw [List.cons_append]; unfold splitS; rw [ih]
    by_cases h : c = 47
    · simp [h]
    · simp only [if_neg h]
      cases hs : splitS r with
      | nil => exact absurd hs (splitS_ne r)
      | cons a b => rfl
theorem labL_slash (l : List UInt8) : labL (l ++ [47]) = false := by
  unfold labL
  rw [splitS_snoc, List.all_append]
  simp [partL, wordL]
def seenB (s : ByteArray) : Bool := decide (s = starW) || (frlB s || (decide (1 < s.size) && (Lib.hasSuffix (bl s) [47] && labL ((bl s).take (s.size - 1)))))
theorem seen_view (s : ByteArray) : seenB s = viewB s := by
  have hsz := size_len s
  have hb : bl s = s.data.toList := rfl
  unfold viewB seenB
  by_cases h : Lib.hasSuffix (bl s) [47] = true
  · rw [if_pos h]
    obtain ⟨m, hm⟩ := List.isSuffixOf_iff_suffix.1 h
    have hl : labB s = false := by unfold labB; rw [← hm]; exact labL_slash m
    have hf : frlB s = false := by unfold frlB; rw [hl]; rfl
    have hs : decide (s = starW) = false := by
      rw [decide_eq_false_iff_not]; intro e
      rw [e] at hm
      have : (bl starW) = [] ++ [42] := rfl
      rw [this] at hm
      have := List.append_inj_right' hm rfl
      cases this
    have ht : Lib.trimSuffix (bl s) [47] = m := by
      unfold Lib.trimSuffix; rw [if_pos h, ← hm]; simp
    have hn : s.size = m.length + 1 := by rw [hsz, ← hb, ← hm]; simp
    rw [hs, hf, ht, h, hn]
    have e2 : (bl s).take (m.length + 1 - 1) = m := by rw [← hm]; simp
    rw [e2]
    cases m with
    | nil => rfl
    | cons a r => simp
  · rw [if_neg h]
    have h' : Lib.hasSuffix (bl s) [47] = false := by cases hc : Lib.hasSuffix (bl s) [47] with | true => exact absurd hc h | false => rfl
    rw [h']; simp
theorem suffix_at (s : ByteArray) (k : Nat) (h : s.size = k + 1) : Lib.hasSuffix (bl s) [47] = decide ((bl s)[k]? = some 47) := by
  have hsz := size_len s
  have hb : bl s = s.data.toList := rfl
  rw [Bool.eq_iff_iff, decide_eq_true_iff]
  constructor
  · intro h1
    obtain ⟨m, hm⟩ := List.isSuffixOf_iff_suffix.1 h1
    have : m.length = k := by rw [hb.symm, ← hm] at hsz; simp at hsz; omega
    rw [← hm, ← this]; simp
  · intro h1
    refine List.isSuffixOf_iff_suffix.2 ⟨(bl s).take k, ?_⟩
    have h2 := List.getElem?_eq_some_iff.1 h1
    have h3 := List.take_append_drop k (bl s)
    rw [List.drop_eq_getElem_cons h2.1, h2.2, List.drop_of_length_le (by rw [hb]; omega)] at h3
    exact h3

set_option maxHeartbeats 400000 in
theorem rreserved_any (s : ByteArray) (w : World) : Calls Tryz.prog 200 #[.string s] w fun e w' => e = .returned (.bool (resB s)) ∧ w = w' := by
  have h1 : (s.toList == [100, 101, 112, 115]) = decide (s = depsW) := str_lit s _; have h2 : (s.toList == [118, 105, 115, 105, 98, 108, 101]) = decide (s = visibleW) := str_lit s _
  by_cases e1 : s = depsW
  · have hv : Hid (resB s = true) := by show _ = _; unfold resB; rw [decide_eq_true e1]; rfl
    rw [decide_eq_true e1] at h1
    have h1' : (s.toList == [100, 101, 112, 115]) = true := h1
    clear h1 h2 e1
    go_enter Tryz.func200, Tryz.ntmps200
    go_wp2
    go_ret
    exact ⟨ret_bool hv.out.symm, rfl⟩
  · rw [decide_eq_false e1] at h1
    have h1' : (s.toList == [100, 101, 112, 115]) = false := h1
    by_cases e2 : s = visibleW
    · have hv : Hid (resB s = true) := by show _ = _; unfold resB; rw [decide_eq_true e2]; simp
      rw [decide_eq_true e2] at h2
      have h2' : (s.toList == [118, 105, 115, 105, 98, 108, 101]) = true := h2
      clear h1 h2 e1 e2
      go_enter Tryz.func200, Tryz.ntmps200
      go_wp2
      go_ret
      exact ⟨ret_bool hv.out.symm, rfl⟩
    · have hv : Hid (resB s = false) := by show _ = _; unfold resB; rw [decide_eq_false e1, decide_eq_false e2]; rfl
      rw [decide_eq_false e2] at h2
      have h2' : (s.toList == [118, 105, 115, 105, 98, 108, 101]) = false := h2
      clear h1 h2 e1 e2
      go_enter Tryz.func200, Tryz.ntmps200
      go_wp2
      go_ret
      exact ⟨ret_bool hv.out.symm, rfl⟩
set_option maxHeartbeats 400000 in
theorem rfree_any (s : ByteArray) (w : World) (hs : s.size ≤ maxLen) : Calls Tryz.prog 229 #[.string s] w fun e w' => e = .returned (.bool (frlB s)) ∧ w = w' := by
  go_enter Tryz.func229, Tryz.ntmps229
  cases hl : labB s with
  | false =>
    have hv : Hid (frlB s = false) := by show _ = _; unfold frlB; rw [hl]; rfl
    have HL := Lib.hid hl
    clear hl
    go_wp2_with (go_at_call 99; refine (rlabel_any _ _ hs).mono ?_; rintro e w1 ⟨rfl, rfl⟩; rw [HL.out])
    go_ret
    exact ⟨ret_bool hv.out.symm, rfl⟩
  | true =>
    have hv : Hid (frlB s = !resB s) := by show _ = _; unfold frlB; rw [hl]; rfl
    have HL := Lib.hid hl
    clear hl
    go_wp2_with (first
      | (go_at_call 99; refine (rlabel_any _ _ hs).mono ?_; rintro e w1 ⟨rfl, rfl⟩; rw [HL.out])
      | (go_at_call 200; refine (rreserved_any _ _).mono ?_; rintro e w2 ⟨rfl, rfl⟩))
    go_ret
    exact ⟨ret_bool hv.out.symm, rfl⟩
set_option maxHeartbeats 1000000 in
theorem rseen_any (s : ByteArray) (w : World) (hs : s.size ≤ maxLen) : Calls Tryz.prog 228 #[.string s] w fun e w' => e = .returned (.bool (viewB s)) ∧ w = w' := by
  rw [← seen_view]
  have hs' : s.size ≤ 9223372036854775807 := by unfold maxLen at hs; exact hs
  have HFL := Lib.hid (rfree_any s w hs)
  go_enter Tryz.func228, Tryz.ntmps228
  have h1 : (s.toList == [42]) = decide (s = starW) := str_lit s _
  by_cases e1 : s = starW
  · have hv : Hid (seenB s = true) := by show _ = _; unfold seenB; rw [decide_eq_true e1]; rfl
    rw [decide_eq_true e1] at h1
    have h1' : (s.toList == [42]) = true := h1
    clear h1 e1
    go_wp2_with fail
    go_ret
    exact ⟨ret_bool hv.out.symm, rfl⟩
  have hv : Hid (seenB s = (frlB s || (decide (1 < s.size) && (Lib.hasSuffix (bl s) [47] && labL ((bl s).take (s.size - 1)))))) := by show _ = _; unfold seenB; rw [decide_eq_false e1, Bool.false_or]
  rw [decide_eq_false e1] at h1
  have h1' : (s.toList == [42]) = false := h1
  clear h1 e1
  cases hf : frlB s with
  | true =>
    rw [hf] at HFL hv
    clear hf
    go_wp2_with (go_at_call 229; refine HFL.out.mono ?_; rintro e w1 ⟨rfl, rfl⟩)
    go_ret
    exact ⟨ret_bool (by rw [hv.out]; rfl), rfl⟩
  | false =>
    rw [hf] at HFL hv
    rw [Bool.false_or] at hv
    clear hf
    by_cases hn : 1 < s.size
    · rw [decide_eq_true hn, Bool.true_and] at hv
      obtain ⟨k, hk⟩ : ∃ k, s.size = k + 1 := ⟨s.size - 1, by omega⟩
      rw [suffix_at s k hk, hk, Nat.add_sub_cancel] at hv
      have hks : k < s.size := by omega
      have hg := get_data s k hks
      have hg2 : (bl s)[k]? = some s[k] := hg
      rw [hg2] at hv
      have hn1 : (s.size : Int) - 1 = (k : Int) := by omega
      have hn2 : (0 : Int) < (k : Int) := by omega
      have hn3 : (k : Int) < (s.size : Int) := by omega
      clear hg hg2 hn
      by_cases h47 : s[k] = 47
      · have t1 : (((s[k].toNat : Nat) : Int) == 47) = true := by simp [h47]
        rw [h47] at hv
        simp only [decide_true, Bool.true_and] at hv
        have HLA := Lib.hid (rlabel_any (s.extract 0 k) w (by have h0 : (s.extract 0 k).size ≤ s.size := (by simp; omega); omega))
        have HEX : Hid (labB (s.extract 0 k) = labL ((bl s).take k)) := by show _ = _; unfold labB bl; rw [extract_list]; simp
        clear hk h47
        go_wp2_with (first
          | (go_at_call 229; refine HFL.out.mono ?_; rintro e w1 ⟨rfl, rfl⟩)
          | (go_at_call 99; refine HLA.out.mono ?_; rintro e w1 ⟨rfl, rfl⟩))
        go_ret
        exact ⟨ret_bool (by rw [hv.out, HEX.out]), rfl⟩
      · have t1 : (((s[k].toNat : Nat) : Int) == 47) = false := by
          rw [beq_eq_false_iff_ne]; intro e
          apply h47
          apply UInt8.toNat_inj.1
          show s[k].toNat = 47
          omega
        rw [decide_eq_false (fun e => h47 (Option.some.inj e)), Bool.false_and] at hv
        clear hk h47
        go_wp2_with (go_at_call 229; refine HFL.out.mono ?_; rintro e w1 ⟨rfl, rfl⟩)
        go_ret
        exact ⟨ret_bool hv.out.symm, rfl⟩
    · rw [decide_eq_false hn, Bool.false_and] at hv
      have hn2 : ¬ (0 : Int) < (s.size : Int) - 1 := by omega
      clear hn
      go_wp2_with (go_at_call 229; refine HFL.out.mono ?_; rintro e w1 ⟨rfl, rfl⟩)
      go_ret
      exact ⟨ret_bool hv.out.symm, rfl⟩

theorem infoStr3 : (Tryz.prog.info? 9).map (fun i => (i.zero, i.size, i.bytes)) = some (some (.string ⟨#[]⟩), 1, 16) := by kernel_rfl
set_option maxRecDepth 100000 in
set_option maxHeartbeats 2000000 in
theorem relem_any (A : Option Addr) (n c B : Nat) (l : List ByteArray) (w : World) (h : Sl w B 1 A n (strs l)) (hB : B ≤ w.heap.size) (hn : n ≤ c) (hc : c ≤ maxLen) (hls : ∀ x ∈ l, x.size ≤ maxLen) :
    Calls Tryz.prog 212 #[.slice A n c, .bool true] w fun e w' => e = .returned (.int .i64 (elE viewB [] l)) ∧ Below w.heap.size w w' := by
  have hnm : n ≤ 9223372036854775807 := by unfold maxLen at hc; omega
  have H := Lib.hid h; have HLS := Lib.hid hls
  have HLL : Hid (l.length = n) := by have := h.1; rw [strs_len] at this; show _ = _; omega
  clear h hls
  go_enter Tryz.func212, Tryz.ntmps212
  go_wp2
  go_loopw [5] (fun i wr => ∃ k : Nat, k ≤ n ∧ i = .int .i64 k ∧ Hid (elE viewB [] l = elE viewB (l.take k) (l.drop k)) ∧ Hid (Below w.heap.size w wr)) (fun i _ => n - (intOf i).toNat)
  case atStart => exact ⟨0, Nat.zero_le _, rfl, rfl, Below.refl _ _⟩
  case round =>
    obtain ⟨k, hk, rfl, hE, hBel⟩ := hrel
    by_cases hlt : k < n
    · obtain ⟨b, off, x, rfl, hb, hx, y0⟩ := (H.out.below hBel.out hB).str_at hlt
      have hxs := HLS.out x (List.mem_of_getElem? hx)
      have HT := Lib.hid (elE_take (ok := viewB) hx)
      have hlz : (k : Int) < (n : Int) := by omega
      clear hx
      cases hv : viewB x with
      | false =>
        have hF : Hid (elE viewB [] l = 6) := by show _ = _; rw [hE.out, HT.out, hv]; rfl
        have HV := Lib.hid hv
        clear hv
        go_wp2_with (go_at_call 228; refine (rseen_any _ _ hxs).mono ?_; rintro e w1 ⟨rfl, rfl⟩; rw [HV.out])
        go_ret
        exact ⟨ret_int hF.out.symm, hBel.out⟩
      | true =>
        have HV := Lib.hid hv
        have HT2 : Hid (elE viewB (l.take k) (l.drop k) = if memB (l.take k) x then 7 else elE viewB (l.take (k + 1)) (l.drop (k + 1))) := by show _ = _; rw [HT.out, hv]; rfl
        clear hv HT
        have hsl : ∀ w' : World, (Instr.sliceAt 33 (.slice (some ⟨b, off, none⟩) n c) none (some (.int .i64 k)) none).run Tryz.prog w' = .ok (.slice (some ⟨b, off, none⟩) k c) w' := fun w' => by
          obtain ⟨i0, hi0, _⟩ := info_parts infoStr3
          exact run_slice_to 33 i0 Tryz.underlying33 hi0 _ n c k (by omega) w'
        have HSL : Hid (∀ q : Nat, Calls Tryz.prog 73 #[.slice (some ⟨b, off, none⟩) k c, .string x] (wr.drewN q) fun e w' => e = .returned (.bool (memB (l.take k) x)) ∧ w' = wr.drewN q) :=
          fun q => (rhas_any (some ⟨b, off, none⟩) k n c B l x (wr.drewN q) ((H.out.below hBel.out hB).drewN q) hk hnm).mono (fun e w' h => ⟨h.1, h.2.symm⟩)
        cases hm : memB (l.take k) x with
        | true =>
          have hF : Hid (elE viewB [] l = 7) := by show _ = _; rw [hE.out, HT2.out, hm]; rfl
          rw [hm] at HSL
          clear hm
          go_wp2_with (go_at_call 228; refine (rseen_any _ _ hxs).mono ?_; rintro e w1 ⟨rfl, rfl⟩; rw [HV.out])
          go_quiet (first | (go_at_call 73; exact Calls.quiet_of_same (HSL.out _)))
          go_wp2
          go_ret
          exact ⟨ret_int hF.out.symm, below_drewN hBel.out _⟩
        | false =>
          have hF : Hid (elE viewB [] l = elE viewB (l.take (k + 1)) (l.drop (k + 1))) := by show _ = _; rw [hE.out, HT2.out, hm]; rfl
          rw [hm] at HSL
          clear hm
          go_wp2_with (go_at_call 228; refine (rseen_any _ _ hxs).mono ?_; rintro e w1 ⟨rfl, rfl⟩; rw [HV.out])
          go_quiet (first | (go_at_call 73; exact Calls.quiet_of_same (HSL.out _)))
          go_wp2
          go_roundw
          case rel => exact ⟨k + 1, hlt, by go_num, hF.out, below_drewN hBel.out _⟩
          case measure => simp [intOf]; omega
    · have hlz : ¬ (k : Int) < (n : Int) := by omega
      have hF : Hid (elE viewB [] l = 0) := by
        show _ = _
        rw [hE.out, List.drop_of_length_le (by rw [HLL.out]; omega)]; rfl
      go_wp2
      go_ret
      exact ⟨ret_int hF.out.symm, hBel.out⟩
set_option maxHeartbeats 400000 in
theorem relemNone_any (A : Option Addr) (c : Nat) (f : Bool) (w : World) : Calls Tryz.prog 212 #[.slice A 0 c, .bool f] w fun e w' => e = .returned (.int .i64 0) ∧ w = w' := by
  go_enter Tryz.func212, Tryz.ntmps212
  go_wp2
  go_loop [5] (fun i => i = .int .i64 0) (fun _ => 0)
  case atStart => rfl
  case round =>
    subst hrel
    go_wp2
    go_ret
    exact ⟨rfl, rfl⟩
def nameX : ByteArray := ⟨#[120]⟩
theorem lab_x : labB nameX = true := by decide
theorem res_x : resB nameX = false := by decide
set_option maxHeartbeats 400000 in
theorem wrapX : wrap64 ((nameX.size : Int) - 1) = 0 := by decide +kernel
theorem rslashX_any (w : World) : Calls Tryz.prog 202 #[.string nameX] w fun e w' => e = .returned (.int .i64 (-1)) ∧ w = w' := by
  go_enter Tryz.func202, Tryz.ntmps202
  go_wp2
  go_loop [3] (fun i => i = .int .i64 0 ∨ i = .int .i64 (-1)) (fun i => (intOf i + 1).toNat)
  case atStart => exact .inl (by rw [wrapX])
  case round =>
    rcases hrel with rfl | rfl
    · go_wp2
      go_round
      case rel => exact .inr rfl
      case measure => decide
    · go_wp2
      go_ret
      exact ⟨rfl, rfl⟩
theorem rnameX_any (w : World) : Calls Tryz.prog 156 #[.string nameX] w fun e w' => e = .returned (.bool true) ∧ w = w' := by
  go_enter Tryz.func156, Tryz.ntmps156
  go_wp2_with (first
    | (go_at_call 99; refine (rlabel_any _ _ (by decide)).mono ?_; rintro e w1 ⟨rfl, rfl⟩; rw [lab_x])
    | (go_at_call 202; refine (rslashX_any _).mono ?_; rintro e w1 ⟨rfl, rfl⟩))
  go_ret
  exact ⟨rfl, rfl⟩
set_option maxRecDepth 100000 in
set_option maxHeartbeats 1000000 in
theorem rrule_any (A : Option Addr) (n c B : Nat) (l : List ByteArray) (w : World) (h : Sl w B 1 A n (strs l)) (hB : B ≤ w.heap.size) (hn : n ≤ c) (hc : c ≤ maxLen) (hls : ∀ x ∈ l, x.size ≤ maxLen) :
    Calls Tryz.prog 159 #[.agg #[.int .i64 1, .string nameX, .slice none 0 0, .slice A n c]] w fun e w' => e = .returned (.int .i64 (visE l)) ∧ Below w.heap.size w w' := by
  have H := Lib.hid h; have HLS := Lib.hid hls
  have HLL : Hid (l.length = n) := by have := h.1; rw [strs_len] at this; show _ = _; omega
  clear h hls
  have hnm : n ≤ 9223372036854775807 := by unfold maxLen at hc; omega
  have HB0 : Hid (Below w.heap.size w (w.alloc (.cells #[.int .i64 1, .string nameX, .slice none 0 0, .slice A n c] 60))) := (Below.refl _ w).alloc (Nat.le_refl _) _
  have hk0 : Bk (w.alloc (.cells #[.int .i64 1, .string nameX, .slice none 0 0, .slice A n c] 60)) w.heap.size 60 #[.int .i64 1, .string nameX, .slice none 0 0, .slice A n c] := Bk.new w _ _
  have u0 := hk0.cell 0; have u1 := hk0.cell 1; have u2 := hk0.cell 2; have u3 := hk0.cell 3
  simp only [List.getElem?_toArray, List.getElem?_cons_succ, List.getElem?_cons_zero] at u0 u1 u2 u3
  clear hk0
  have HV := Lib.hid (relem_any A n c B l (w.alloc (.cells #[.int .i64 1, .string nameX, .slice none 0 0, .slice A n c] 60)) (H.out.below HB0.out hB) (Nat.le_trans hB HB0.out.size) hn hc HLS.out)
  go_enter Tryz.func159, Tryz.ntmps159
  by_cases hlong : 20 < n
  · have hF : Hid (visE l = 4) := by show _ = _; unfold visE; rw [if_pos (by rw [HLL.out]; exact hlong)]
    have hlz : (20 : Int) < (n : Int) := by omega
    go_wp2_with (first
      | (go_at_call 156; refine (rnameX_any _).mono ?_; rintro e w1 ⟨rfl, rfl⟩)
      | (go_at_call 200; refine (rreserved_any _ _).mono ?_; rintro e w1 ⟨rfl, rfl⟩; rw [res_x]))
    go_ret
    exact ⟨ret_int hF.out.symm, HB0.out⟩
  · have hF : Hid (visE l = elE viewB [] l) := by show _ = _; unfold visE; rw [if_neg (by rw [HLL.out]; exact hlong)]
    have hlz : ¬ (20 : Int) < (n : Int) := by omega
    go_wp2_with (first
      | (go_at_call 156; refine (rnameX_any _).mono ?_; rintro e w1 ⟨rfl, rfl⟩)
      | (go_at_call 200; refine (rreserved_any _ _).mono ?_; rintro e w1 ⟨rfl, rfl⟩; rw [res_x])
      | (go_at_call 212; refine (relemNone_any none 0 _ _).mono ?_; rintro e w2 ⟨rfl, rfl⟩; refine halt_ ?_))
    refine unhalt ?_
    go_wp2_with (go_at_call 212; refine HV.out.mono ?_; rintro e w2 ⟨rfl, hb2⟩)
    go_ret
    exact ⟨ret_int hF.out.symm, HB0.out.trans (hb2.mono HB0.out.size)⟩
set_option maxRecDepth 100000 in
set_option maxHeartbeats 2000000 in
theorem rcheckOne_any (A : Option Addr) (n c B b : Nat) (l : List ByteArray) (w : World) (h : Sl w B 1 A n (strs l)) (hB : B ≤ w.heap.size) (hn : n ≤ c) (hc : c ≤ maxLen) (hls : ∀ x ∈ l, x.size ≤ maxLen) (hk : Bk w b 60 #[.int .i64 1, .string nameX, .slice none 0 0, .slice A n c]) :
    Calls Tryz.prog 110 #[.slice (some ⟨b, 0, none⟩) 1 1] w fun e w' => e = .returned (.int .i64 (visE l)) ∧ Below w.heap.size w w' := by
  have H := Lib.hid h; have HLS := Lib.hid hls; have HK := Lib.hid hk
  clear h hls hk
  have u0 := HK.out.cell 0; have u1 := HK.out.cell 1; have u2 := HK.out.cell 2; have u3 := HK.out.cell 3
  simp only [List.getElem?_toArray, List.getElem?_cons_succ, List.getElem?_cons_zero] at u0 u1 u2 u3
  have HC := Lib.hid (rrule_any A n c B l w H.out hB hn hc HLS.out)
  go_enter Tryz.func110, Tryz.ntmps110
  go_wp2
  go_loopw [3, 4] (fun i _ wr => (i = .int .i64 0 ∧ wr = w) ∨ (i = .int .i64 1 ∧ Hid (visE l = 0) ∧ Hid (Below w.heap.size w wr))) (fun i _ _ => 1 - (intOf i).toNat)
  case atStart => exact .inl ⟨rfl, rfl⟩
  case round =>
    rcases hrel with ⟨rfl, rfl⟩ | ⟨rfl, hE, hBel⟩
    · by_cases hv : visE l = 0
      · have HV := Lib.hid hv
        rw [hv] at HC
        clear hv
        go_wp2_with (go_at_call 159; refine HC.out.mono ?_; rintro e w2 ⟨rfl, hb2⟩; refine halt_ ?_)
        refine unhalt ?_
        have HB2 : Hid (Below wr.heap.size wr w2) := hb2
        clear hb2
        go_wp2
        go_loop [4, 5] (fun e i => e = .int .i64 0 ∧ i = .int .i64 0) (fun _ _ => 0)
        case atStart => exact ⟨rfl, rfl⟩
        case round =>
          obtain ⟨rfl, rfl⟩ := hrel
          go_wp2
          go_roundw
          case rel => exact .inr ⟨rfl, HV.out, HB2.out⟩
          case measure => simp [intOf]
      · have hv' : (visE l != 0) = true := by simpa using hv
        obtain ⟨v, hve⟩ : ∃ v, visE l = v := ⟨_, rfl⟩
        rw [hve] at HC hv'
        have HVE := Lib.hid hve
        clear hv hve
        go_wp2_with (go_at_call 159; refine HC.out.mono ?_; rintro e w2 ⟨rfl, hb2⟩)
        go_loop [4, 5] (fun e i => e = .int .i64 v ∧ i = .int .i64 0) (fun _ _ => 0)
        case atStart => exact ⟨rfl, rfl⟩
        case round =>
          obtain ⟨rfl, rfl⟩ := hrel
          go_wp2
          go_ret
          exact ⟨ret_int HVE.out.symm, hb2⟩
    · go_wp2
      go_ret
      exact ⟨ret_int hE.out.symm, hBel.out⟩
end Go.Proofs.YtddlohbhchjjhaaGreatDoor

namespace Go.Proofs.YtddlohbhchjjhaaGreatDoor

theorem ls11 {vs : List Value} (h : vs.length = 11) : ∃ v0 v1 v2 v3 v4 v5 v6 v7 v8 v9 v10, vs = v0 :: v1 :: v2 :: v3 :: v4 :: v5 :: v6 :: v7 :: v8 :: v9 :: v10 :: [] := by
  match vs, h with
  | v0 :: v1 :: v2 :: v3 :: v4 :: v5 :: v6 :: v7 :: v8 :: v9 :: v10 :: [], _ => exact ⟨_, _, _, _, _, _, _, _, _, _, _, rfl⟩
theorem ls12 {vs : List Value} (h : vs.length = 12) : ∃ v0 v1 v2 v3 v4 v5 v6 v7 v8 v9 v10 v11, vs = v0 :: v1 :: v2 :: v3 :: v4 :: v5 :: v6 :: v7 :: v8 :: v9 :: v10 :: v11 :: [] := by
  match vs, h with
  | v0 :: v1 :: v2 :: v3 :: v4 :: v5 :: v6 :: v7 :: v8 :: v9 :: v10 :: v11 :: [], _ => exact ⟨_, _, _, _, _, _, _, _, _, _, _, _, rfl⟩
theorem ls16 {vs : List Value} (h : vs.length = 16) : ∃ v0 v1 v2 v3 v4 v5 v6 v7 v8 v9 v10 v11 v12 v13 v14 v15, vs = v0 :: v1 :: v2 :: v3 :: v4 :: v5 :: v6 :: v7 :: v8 :: v9 :: v10 :: v11 :: v12 :: v13 :: v14 :: v15 :: [] := by
  match vs, h with
  | v0 :: v1 :: v2 :: v3 :: v4 :: v5 :: v6 :: v7 :: v8 :: v9 :: v10 :: v11 :: v12 :: v13 :: v14 :: v15 :: [], _ => exact ⟨_, _, _, _, _, _, _, _, _, _, _, _, _, _, _, _, rfl⟩
theorem ls27 {vs : List Value} (h : vs.length = 27) : ∃ v0 v1 v2 v3 v4 v5 v6 v7 v8 v9 v10 v11 v12 v13 v14 v15 v16 v17 v18 v19 v20 v21 v22 v23 v24 v25 v26, vs = v0 :: v1 :: v2 :: v3 :: v4 :: v5 :: v6 :: v7 :: v8 :: v9 :: v10 :: v11 :: v12 :: v13 :: v14 :: v15 :: v16 :: v17 :: v18 :: v19 :: v20 :: v21 :: v22 :: v23 :: v24 :: v25 :: v26 :: [] := by
  match vs, h with
  | v0 :: v1 :: v2 :: v3 :: v4 :: v5 :: v6 :: v7 :: v8 :: v9 :: v10 :: v11 :: v12 :: v13 :: v14 :: v15 :: v16 :: v17 :: v18 :: v19 :: v20 :: v21 :: v22 :: v23 :: v24 :: v25 :: v26 :: [], _ => exact ⟨_, _, _, _, _, _, _, _, _, _, _, _, _, _, _, _, _, _, _, _, _, _, _, _, _, _, _, rfl⟩
end Go.Proofs.YtddlohbhchjjhaaGreatDoor
