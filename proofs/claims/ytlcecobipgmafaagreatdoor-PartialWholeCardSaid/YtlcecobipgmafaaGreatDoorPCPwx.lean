/-
  Lemmas of the card behind it.
-/
import Derived.Lib.BufferMore
import Derived.Test.YtlcecobipgmafaaGreatDoorP14

namespace Go.Proofs.YtlcecobipgmafaaGreatDoor
open Go.RowKit

section
variable {P : Program} {w : World} {base size n : Nat} {e : TypeId} {v : Value} {xs : List Value}

theorem wpList_append_sl (w : World) {ops : Array Oper} {rest : List Oper} {o : Oper} {a : Act} {Q : Exit → Act → World → Prop} (hgd : o.guard = none) (s x : Operand) (t : TypeId)
    (ho : o.op = .call { callee := .builtin .append, args := #[s, x], argTypes := #[t, t] })
    (e : TypeId) (i : TypeInfo) (z : Value) (bytes : Nat) (ht : P.underlying t = some (.slice e)) (hi : P.info? e = some i) (hz : i.zero = some z)
    (hsize : i.size = size) (hby : i.bytes = bytes) (hzs : z.cells.size = size) (hsz : 0 < size)
    (v : Value) (n : Nat) (xs : List Value) (hs : a.eval s = v) (hown : w.ownsRow base e size v n xs)
    (B : Nat) (A : Option Addr) (m c : Nat) (ys : List Value) (hx : a.eval x = .slice A m c) (hsl : Sl w B size A m ys) (h1 : ∀ u ∈ ys, u.oneCell' = true)
    (h63 : n + m ≤ maxLen) (hbytes : (n + m) * bytes ≤ 140737488355328) (hbase : base ≤ w.heap.size)
    (h : ∀ A' c' w', w'.ownsRow base e size (.slice A' (n + m) c') (n + m) (xs ++ ys) → w.grownBy w' v.ownBlock → n + m ≤ c' → c' ≤ maxLen → wpList P ops Q rest (a.put o.dst (.slice A' (n + m) c')) w') : wpList P ops Q (o :: rest) a w := by
  refine wpList_plain hgd fun K hK => ?_
  obtain ⟨A', c', w', hr, ho', hg, hc1, hc2⟩ := run_append_sl (P := P) t o.type i z bytes ht hi hz hsize hby hzs hsz hown (c := c) hsl h1 h63 hbytes hbase
  unfold Oper.wp
  simp [execOp, ho, resolve, invoke, builtin, hs, hx, hr, Result.andThen]
  exact hK _ _ (h A' c' w' ho' hg hc1 hc2)

end
end Go.Proofs.YtlcecobipgmafaaGreatDoor

namespace Go.Proofs.YtlcecobipgmafaaGreatDoor
open Go.RowKit

section
variable {eR eL eK : Int} {p : List Itm} {hs : List Dig} {dep : Int} {pre : Bytes} {l l' edge edge' : List Dig} {e e' : Int}
section
variable (hp : PlOk p) (N : NdOk p hs dep pre l edge)
include hp N
omit hp in
end
def linksO (o : Ob) : List Dig := o.ents.map Ent.dg ++ if o.kind = 3 then o.tree :: o.pars else []
inductive Rchd (p : List Itm) (rs : List Dig) : Dig → Prop
  | root {d : Dig} (h : d ∈ rs) : Rchd p rs d
  | link {d x : Dig} {o : Ob} (h : Rchd p rs d) (g : getP p d = some o) (m : x ∈ linksO o) : Rchd p rs x
structure RchdR (p : List Itm) (rs l m : List Dig) : Prop where
  there : ∀ d, d ∈ l ↔ d ≠ zD ∧ Rchd p rs d ∧ getP p d ≠ none
  miss : ∀ d, d ∈ m ↔ d ≠ zD ∧ Rchd p rs d ∧ getP p d = none
theorem getP_nz (hp : PlOk p) {d : Dig} {o : Ob} (h : getP p d = some o) : d ≠ zD := by
  rw [getP_dg hp h]
  unfold dgO ofB
  split
  · decide
  · rename_i h; intro e; apply h; unfold zD at e; simpa using e
theorem NdOk.reach (hp : PlOk p) (N : NdOk p hs 0 [] l edge) {rl rm : List Dig} (R : RchdR p hs rl rm) : rm = [] ∧ edge = [] ∧ keepP p l = keepP p rl := by
  have h1 : ∀ d, Rchd p hs d → ∃ k, Nd p hs noStop 0 [] d k := by
    intro d h
    induction h with
    | root h => exact ⟨3, .com ⟨0, .head h, .inl rfl⟩⟩
    | @link d x o h g m ih =>
      obtain ⟨k, hk⟩ := ih
      have ho : o.kind = k := by
        refine Classical.byContradiction fun hne => N.w ⟨d, k, o, hk, g, hne⟩
      have hok := (getP_ok hp g).f
      cases hk with
      | com h3 =>
        cases hok with
        | blob k' => omega
        | tree k' => omega
        | commit k' _ e c =>
          unfold linksO at m
          rw [e, if_pos ho] at m
          simp only [List.map_nil, List.nil_append, List.mem_cons] at m
          rcases m with rfl | m
          · exact ⟨2, .dir (.root h3 g ho)⟩
          · obtain ⟨n, hn, _⟩ := h3
            exact ⟨3, .com ⟨n + 1, .par hn g ho (fun h => h) m, .inl rfl⟩⟩
      | dir h2 =>
        unfold linksO at m
        rw [if_neg (by omega), List.append_nil, List.mem_map] at m
        obtain ⟨e, he, rfl⟩ := m
        cases hd : e.dir with
        | true => exact ⟨2, .dir (.sub h2 g ho he hd (.inl List.nil_prefix))⟩
        | false => exact ⟨1, .blob h2 g ho he hd List.nil_prefix⟩
      | blob h2 g' k' m' hd t =>
        unfold linksO at m
        cases hok with
        | blob k' e => rw [e, if_neg (by omega)] at m; simp at m
        | tree k' => omega
        | commit k' => omega
  have hl : ∀ {n : Nat} {d : Dig}, Lv p hs noStop n d → Rchd p hs d := by
    intro n d h
    induction h with
    | head h => exact .root h
    | par _ g k _ m ih => exact .link ih g (by unfold linksO; rw [if_pos k]; simp [m])
  have hpl : ∀ {d : Dig} {q : Bytes}, Plc p hs noStop 0 [] d q → Rchd p hs d := by
    intro d q h
    induction h with
    | root h g k => obtain ⟨n, hn, _⟩ := h; exact .link (hl hn) g (by unfold linksO; rw [if_pos k]; simp)
    | sub _ g k m _ _ ih => exact .link ih g (by unfold linksO; exact List.mem_append_left _ (List.mem_map_of_mem m))
  have h2 : ∀ d, Need p hs noStop 0 [] d → Rchd p hs d := by
    rintro d ⟨k, h⟩
    cases h with
    | com h => obtain ⟨n, hn, _⟩ := h; exact hl hn
    | dir h => exact hpl h
    | blob h g k m _ _ => exact .link (hpl h) g (by unfold linksO; exact List.mem_append_left _ (List.mem_map_of_mem m))
  refine ⟨List.eq_nil_iff_forall_not_mem.2 fun d hd => ?_, List.eq_nil_iff_forall_not_mem.2 fun d hd => ?_, ?_⟩
  · obtain ⟨_, hr, hn⟩ := (R.miss d).1 hd
    exact N.m ⟨d, h1 d hr, hn⟩
  · obtain ⟨⟨n, hn, _⟩, o, x, g, k, m, hx⟩ := (N.me d).1 hd
    exact hx ⟨n + 1, .par hn g k (fun h => h) m, .inl rfl⟩
  · unfold keepP
    refine List.filter_congr fun i hi => ?_
    refine decide_eq_decide.2 ?_
    rw [N.ml, R.there]
    constructor
    · intro h
      obtain ⟨o, ho⟩ := N.has h
      exact ⟨getP_nz hp ho, h2 _ h, by rw [ho]; simp⟩
    · exact fun h => h1 _ h.2.1
end
end Go.Proofs.YtlcecobipgmafaaGreatDoor

namespace Go.Proofs.YtlcecobipgmafaaGreatDoor
open Go.RowKit

structure ReJ (p : List Itm) (rs : List Dig) (met : Dig → Bool) (rl rm op : List Dig) (d : Dig) (done : List Dig) : Prop where
  l : ∀ d ∈ rl, d ≠ zD ∧ Rchd p rs d ∧ getP p d ≠ none
  m : ∀ d ∈ rm, d ≠ zD ∧ Rchd p rs d ∧ getP p d = none
  o : ∀ d ∈ op, Rchd p rs d
  me : ∀ d, met d = true ↔ d = zD ∨ d ∈ rl ∨ d ∈ rm
  ro : ∀ d ∈ rs, met d = true ∨ d ∈ op
  cl : ∀ e ∈ rl, ∀ o x, getP p e = some o → x ∈ linksO o → (e = d → x ∈ done) → met x = true ∨ x ∈ op
  nl : rl.Nodup
  nm : rm.Nodup
structure ReI (p : List Itm) (rs : List Dig) (met : Dig → Bool) (rl rm op : List Dig) : Prop where
  l : ∀ d ∈ rl, d ≠ zD ∧ Rchd p rs d ∧ getP p d ≠ none
  m : ∀ d ∈ rm, d ≠ zD ∧ Rchd p rs d ∧ getP p d = none
  o : ∀ d ∈ op, Rchd p rs d
  me : ∀ d, met d = true ↔ d = zD ∨ d ∈ rl ∨ d ∈ rm
  ro : ∀ d ∈ rs, met d = true ∨ d ∈ op
  cl : ∀ e ∈ rl, ∀ o x, getP p e = some o → x ∈ linksO o → met x = true ∨ x ∈ op
  nl : rl.Nodup
  nm : rm.Nodup
section
variable {p : List Itm} {rs rl rm op done : List Dig} {met : Dig → Bool} {d x : Dig} {o : Ob}
theorem ReI.start (p : List Itm) (rs : List Dig) : ReI p rs (setB (fun _ => false) zD) [] [] rs where
  l := fun d h => by cases h
  m := fun d h => by cases h
  o := fun d h => .root h
  me := fun d => by rw [setB_true]; simp
  ro := fun d h => .inr h
  cl := fun e h => by cases h
  nl := List.nodup_nil
  nm := List.nodup_nil
theorem mem_pop {x d : Dig} (h : x ∈ op ++ [d]) : x ∈ op ∨ x = d := by
  rcases List.mem_append.1 h with h | h
  · exact .inl h
  · exact .inr (List.mem_singleton.1 h)
theorem ReI.skip (h : ReI p rs met rl rm (op ++ [d])) (hm : met d = true) : ReI p rs met rl rm op where
  l := h.l
  m := h.m
  o := fun x hx => h.o x (List.mem_append_left _ hx)
  me := h.me
  ro := fun x hx => (h.ro x hx).elim .inl fun h2 => (mem_pop h2).elim .inr fun e => .inl (e ▸ hm)
  cl := fun e he o x g hx => (h.cl e he o x g hx).elim .inl fun h2 => (mem_pop h2).elim .inr fun e => .inl (e ▸ hm)
  nl := h.nl
  nm := h.nm
theorem ReI.new (h : ReI p rs met rl rm (op ++ [d])) (hm : met d = false) : d ≠ zD ∧ d ∉ rl ∧ d ∉ rm ∧ Rchd p rs d := by
  have h1 : ¬ (d = zD ∨ d ∈ rl ∨ d ∈ rm) := fun h2 => by rw [(h.me d).2 h2] at hm; cases hm
  exact ⟨fun e => h1 (.inl e), fun e => h1 (.inr (.inl e)), fun e => h1 (.inr (.inr e)), h.o d (List.mem_append_right _ (List.mem_singleton.2 rfl))⟩
theorem ReI.miss (h : ReI p rs met rl rm (op ++ [d])) (hm : met d = false) (hg : getP p d = none) : ReI p rs (setB met d) rl (rm ++ [d]) op := by
  obtain ⟨n1, n2, n3, n4⟩ := h.new hm
  have up : ∀ {x}, met x = true ∨ x ∈ op ++ [d] → setB met d x = true ∨ x ∈ op := fun h2 => h2.elim (fun h3 => .inl (setB_true.2 (.inr h3))) fun h3 => (mem_pop h3).elim .inr fun e => .inl (setB_true.2 (.inl e))
  refine ⟨h.l, fun x hx => ?_, fun x hx => h.o x (List.mem_append_left _ hx), fun x => ?_, fun x hx => up (h.ro x hx), fun e he o x g hx => up (h.cl e he o x g hx), h.nl, ?_⟩
  · rcases List.mem_append.1 hx with hx | hx
    · exact h.m x hx
    · rw [List.mem_singleton.1 hx]; exact ⟨n1, n4, hg⟩
  · rw [setB_true, h.me, List.mem_append, List.mem_singleton]
    constructor
    · rintro (e | e | e | e)
      · exact .inr (.inr (.inr e))
      · exact .inl e
      · exact .inr (.inl e)
      · exact .inr (.inr (.inl e))
    · rintro (e | e | e | e)
      · exact .inr (.inl e)
      · exact .inr (.inr (.inl e))
      · exact .inr (.inr (.inr e))
      · exact .inl e
  · exact List.nodup_append.2 ⟨h.nm, List.nodup_cons.2 ⟨by simp, List.nodup_nil⟩, fun a ha b hb e => by rw [List.mem_singleton.1 hb] at e; exact n3 (e ▸ ha)⟩
theorem ReI.got (h : ReI p rs met rl rm (op ++ [d])) (hm : met d = false) (hg : getP p d = some o) : ReJ p rs (setB met d) (rl ++ [d]) rm op d [] := by
  obtain ⟨n1, n2, n3, n4⟩ := h.new hm
  have up : ∀ {x}, met x = true ∨ x ∈ op ++ [d] → setB met d x = true ∨ x ∈ op := fun h2 => h2.elim (fun h3 => .inl (setB_true.2 (.inr h3))) fun h3 => (mem_pop h3).elim .inr fun e => .inl (setB_true.2 (.inl e))
  refine ⟨fun x hx => ?_, h.m, fun x hx => h.o x (List.mem_append_left _ hx), fun x => ?_, fun x hx => up (h.ro x hx), fun e he o x g hx hd => ?_, ?_, h.nm⟩
  · rcases List.mem_append.1 hx with hx | hx
    · exact h.l x hx
    · rw [List.mem_singleton.1 hx]; exact ⟨n1, n4, by rw [hg]; simp⟩
  · rw [setB_true, h.me, List.mem_append, List.mem_singleton]
    constructor
    · rintro (e | e | e | e)
      · exact .inr (.inl (.inr e))
      · exact .inl e
      · exact .inr (.inl (.inl e))
      · exact .inr (.inr e)
    · rintro (e | (e | e) | e)
      · exact .inr (.inl e)
      · exact .inr (.inr (.inl e))
      · exact .inl e
      · exact .inr (.inr (.inr e))
  · rcases List.mem_append.1 he with he | he
    · exact up (h.cl e he o x g hx)
    · have := hd (List.mem_singleton.1 he)
      cases this
  · exact List.nodup_append.2 ⟨h.nl, List.nodup_cons.2 ⟨by simp, List.nodup_nil⟩, fun a ha b hb e => by rw [List.mem_singleton.1 hb] at e; exact n2 (e ▸ ha)⟩
theorem ReJ.pass (h : ReJ p rs met rl rm op d done) (hm : met x = true) : ReJ p rs met rl rm op d (done ++ [x]) := by
  refine ⟨h.l, h.m, h.o, h.me, h.ro, fun e he o y g hy hd => ?_, h.nl, h.nm⟩
  by_cases e2 : y = x
  · exact .inl (e2 ▸ hm)
  · exact h.cl e he o y g hy fun e1 => (mem_pop (hd e1)).elim id fun e3 => absurd e3 e2
theorem ReJ.push (h : ReJ p rs met rl rm op d done) (hr : Rchd p rs x) : ReJ p rs met rl rm (op ++ [x]) d (done ++ [x]) := by
  refine ⟨h.l, h.m, fun y hy => (mem_pop hy).elim (h.o y) (fun e => e ▸ hr), h.me, fun y hy => (h.ro y hy).elim .inl (fun h2 => .inr (List.mem_append_left _ h2)), fun e he o y g hy hd => ?_, h.nl, h.nm⟩
  by_cases e2 : y = x
  · exact .inr (by rw [e2]; exact List.mem_append_right _ (List.mem_singleton.2 rfl))
  · exact (h.cl e he o y g hy fun e1 => (mem_pop (hd e1)).elim id fun e3 => absurd e3 e2).elim .inl fun h2 => .inr (List.mem_append_left _ h2)
theorem ReJ.fin (h : ReJ p rs met rl rm op d (linksO o)) (hg : getP p d = some o) : ReI p rs met rl rm op :=
  ⟨h.l, h.m, h.o, h.me, h.ro, fun e he o' x g hx => h.cl e he o' x g hx fun e1 => by rw [e1, hg] at g; injection g with g; exact g ▸ hx, h.nl, h.nm⟩
theorem ReI.end_ (hp : PlOk p) (h : ReI p rs met rl rm []) {l m : List Dig} (hl : ∀ d, d ∈ l ↔ d ∈ rl) (hm : ∀ d, d ∈ m ↔ d ∈ rm) : RchdR p rs l m := by
  have all : ∀ {d}, Rchd p rs d → met d = true := by
    intro d hd
    induction hd with
    | root hr => exact (h.ro _ hr).elim id fun h2 => by cases h2
    | link _ g hx ih =>
      rcases (h.me _).1 ih with e | e | e
      · exact absurd e (getP_nz hp g)
      · exact (h.cl _ e _ _ g hx).elim id fun h2 => by cases h2
      · have := (h.m _ e).2.2; rw [g] at this; cases this
  constructor
  · intro d
    rw [hl]
    constructor
    · exact h.l d
    · rintro ⟨h1, h2, h3⟩
      rcases (h.me d).1 (all h2) with e | e | e
      · exact absurd e h1
      · exact e
      · exact absurd (h.m d e).2.2 h3
  · intro d
    rw [hm]
    constructor
    · exact h.m d
    · rintro ⟨h1, h2, h3⟩
      rcases (h.me d).1 (all h2) with e | e | e
      · exact absurd e h1
      · exact absurd h3 (h.l d e).2.2
      · exact e
end
/-! ### bounds -/
noncomputable def reU (p : List Itm) (rs : List Dig) : List Dig := rs ++ p.flatMap fun i => linksO (decO i.2)
theorem reU_get {p : List Itm} {rs : List Dig} (hp : PlOk p) {d x : Dig} {o : Ob} (g : getP p d = some o) (hx : x ∈ linksO o) : x ∈ reU p rs := by
  obtain ⟨ho, hm⟩ := (getP_some hp).1 g
  refine List.mem_append_right _ (List.mem_flatMap.2 ⟨_, hm, ?_⟩)
  simp only
  rw [decO_enc ho]; exact hx
theorem reU_mem {p : List Itm} {rs : List Dig} (hp : PlOk p) {d : Dig} (h : Rchd p rs d) : d ∈ reU p rs := by
  cases h with
  | root h => exact List.mem_append_left _ h
  | link _ g m => exact reU_get hp g m
theorem links_len {o : Ob} (h : OkO o) : (linksO o).length ≤ 209 := by
  unfold linksO
  rw [List.length_append, List.length_map]
  cases h.f with
  | blob k e c _ => rw [e]; rcases k with k | k <;> simp [k]
  | tree k _ _ e => have := e.few; simp [k]; omega
  | commit k _ e c => have := c.pars.few; rw [e]; simp [k]; omega
theorem links_wf {o : Ob} (h : OkO o) : ∀ d ∈ linksO o, WfD d := by
  intro d hd
  unfold linksO at hd
  rcases List.mem_append.1 hd with hd | hd
  · obtain ⟨e, he, rfl⟩ := List.mem_map.1 hd
    exact (ok_entOk h e he).dg
  · split at hd
    · rcases List.mem_cons.1 hd with rfl | hd
      · exact ok_tree h
      · exact (ok_parsOk h).2 d hd
    · cases hd
theorem rchd_wf {p : List Itm} {rs : List Dig} (hp : PlOk p) (hr : ∀ d ∈ rs, WfD d) {d : Dig} (h : Rchd p rs d) : WfD d := by
  cases h with
  | root h => exact hr d h
  | link _ g m => exact links_wf (getP_ok hp g) d m
theorem flatMap_le {α β : Type} {f : α → List β} {n : Nat} : ∀ {l : List α}, (∀ x ∈ l, (f x).length ≤ n) → (l.flatMap f).length ≤ l.length * n
  | [], _ => by simp
  | a :: l, h => by
    have h1 := h a (by simp)
    have h2 := flatMap_le (l := l) (f := f) (n := n) fun x hx => h x (by simp [hx])
    rw [List.flatMap_cons, List.length_append, List.length_cons, Nat.add_mul]; omega
theorem reU_len {p : List Itm} {rs : List Dig} (hp : PlOk p) (hn : p.length ≤ 40) (hr : rs.length ≤ 8) : (reU p rs).length ≤ 9000 := by
  unfold reU
  rw [List.length_append]
  have h := flatMap_le (n := 209) (l := p) (f := fun i => linksO (decO i.2)) fun i hi => by
    obtain ⟨o, ho, e⟩ := hp.1 i hi
    rw [e, decO_enc ho]; exact links_len ho
  have := Nat.mul_le_mul_right 209 hn
  omega
def unmet (U : List Dig) (met : Dig → Bool) : Nat := U.countP fun d => !met d
theorem cnt_le {f g : Dig → Bool} : ∀ {U : List Dig}, (∀ x, g x = true → f x = true) → U.countP g ≤ U.countP f
  | [], _ => by simp
  | a :: U, h => by
    have ih := cnt_le (U := U) h
    rw [List.countP_cons, List.countP_cons]
    by_cases ha : g a = true
    · rw [if_pos ha, if_pos (h a ha)]; omega
    · rw [if_neg ha]; omega
theorem cnt_lt {f g : Dig → Bool} {d : Dig} (hf : f d = true) (hg : g d = false) : ∀ {U : List Dig}, (∀ x, g x = true → f x = true) → d ∈ U → U.countP g + 1 ≤ U.countP f
  | [], _, hd => by cases hd
  | a :: U, h, hd => by
    rw [List.countP_cons, List.countP_cons]
    rcases List.mem_cons.1 hd with rfl | hd
    · have := cnt_le (U := U) h
      rw [if_pos hf, if_neg (by rw [hg]; simp)]; omega
    · have ih := cnt_lt hf hg h hd
      by_cases ha : g a = true
      · rw [if_pos ha, if_pos (h a ha)]; omega
      · rw [if_neg ha]; omega
theorem unmet_less {U : List Dig} {met : Dig → Bool} {d : Dig} (hd : d ∈ U) (hm : met d = false) : unmet U (setB met d) + 1 ≤ unmet U met := by
  unfold unmet
  refine cnt_lt (d := d) (by simp [hm]) (by simp [setB]) (fun x hx => ?_) hd
  simp [setB] at hx ⊢
  exact hx.2
theorem unmet_le (U : List Dig) (met : Dig → Bool) : unmet U met ≤ U.length := List.countP_le_length
end Go.Proofs.YtlcecobipgmafaaGreatDoor

namespace Go.Proofs.YtlcecobipgmafaaGreatDoor
open Go.RowKit

def LkE (o : Ob) (w : World) (e : Ending) (w' : World) : Prop :=
  ∃ A n c, n = (linksO o).length ∧ e = .returned (.slice A n c) ∧ Apd w' w.heap.size 42 2 A n c (flat dgC (linksO o)) ∧ Below w.heap.size w w'
theorem dgs_snoc {l : List Ent} {k : Nat} {x : Ent} (h : l[k]? = some x) : (l.take (k + 1)).map Ent.dg = (l.take k).map Ent.dg ++ [x.dg] := by
  rw [take_snoc h, List.map_append]; rfl
theorem apd_low {w : World} {base base' size n c : Nat} {e : TypeId} {A : Option Addr} {xs : List Value} (h : Apd w base e size A n c xs) (hb : base' ≤ base) : Apd w base' e size A n c xs := by
  rcases h with h | h
  · exact .inl (ownsRow_low h hb)
  · exact .inr h
set_option maxRecDepth 100000 in
set_option maxHeartbeats 8000000 in
theorem links_any (o : Ob) (s : Osl) (B : Nat) (w : World) (hm : ObM w B o s) (hB : B ≤ w.heap.size) (ho : OkO o) (hen : s.en ≤ 100000) (hpn : s.pn ≤ 100000) :
    Calls Tryz.prog 41 #[obV o s] w (LkE o w) := by
  obtain ⟨W0, hW0⟩ : ∃ W, w.alloc (.cells (obC o s) 75) = W := ⟨_, rfl⟩
  have HB0 : Hid (Below w.heap.size w W0) := by rw [← hW0]; exact (Below.refl _ w).alloc (Nat.le_refl _) _
  have HK0 : Hid (Bk W0 w.heap.size 75 (obC o s)) := by rw [← hW0]; exact Bk.new w _ _
  have z0 : w.heap.size < W0.heap.size := HK0.out.lt
  have HM0 := Lib.hid (hm.below HB0.out hB)
  have HCK := Lib.hid (ochk_any o s B W0 HM0.out (by omega) ho)
  have HEL := Lib.hid hm.elen; have HPL := Lib.hid hm.plen
  obtain ⟨i0, hi, hz0, hz1, hz2⟩ := info_parts infoDg
  have Hi := Lib.hid hi; have Hz0 := Lib.hid hz0; have Hz1 := Lib.hid hz1; have Hz2 := Lib.hid hz2
  have HW0 := Lib.hid hW0
  obtain ⟨k0, da, es, ⟨t1, t2⟩, ps, au, ti, ms⟩ := o
  obtain ⟨eA, en, ec, pA, pn, pc⟩ := s
  unfold obV obC at *
  simp only at HB0 HK0 HM0 HCK HEL HPL HW0 hen hpn ⊢
  obtain ⟨c0, c1, c2, c3, c4, c5, c6, c7, c8⟩ := HK0.out.nine
  rw [← HW0.out] at c0 c1 c2 c3 c4 c5 c6 c7 c8
  clear hi hz0 hz1 hz2 hW0 hm ho
  go_enter Tryz.func41, Tryz.ntmps41
  go_wp2_with fail
  rw [HW0.out]
  refine HCK.out.mono ?_
  rintro e w1 ⟨rfl, hb1⟩
  have HK1 := Lib.hid (HK0.out.below hb1 z0)
  have HM1 := Lib.hid (HM0.out.below hb1 (by omega))
  have HB1 : Hid (Below w.heap.size w w1) := HB0.out.trans (hb1.mono (by omega))
  have z1 : w.heap.size < w1.heap.size := HK1.out.lt
  clear hb1 HCK c0 c1 c2 c3 c4 c5 c6 c7 c8 HW0
  have HE1 : Hid (Sl w1 B 4 eA en (flat enC es)) := HM1.out.e
  have HP1 : Hid (Sl w1 B 2 pA pn (flat dgC ps)) := HM1.out.p
  obtain ⟨c0, c1, c2, c3, c4, c5, c6, c7, c8⟩ := HK1.out.nine
  go_wp2_with fail
  go_loopw [3, 12] (fun q i wr => ∃ (k : Nat) (A' : Option Addr) (c' : Nat), k ≤ en ∧ i = .int .i64 k ∧ q = .slice A' k c' ∧ k ≤ c' ∧ c' ≤ maxLen ∧ Hid (Apd wr w1.heap.size 42 2 A' k c' (flat dgC ((es.take k).map Ent.dg))) ∧ Hid (Below w1.heap.size w1 wr)) (fun _ i _ => en - (intOf i).toNat)
  case atStart => exact ⟨0, none, 0, Nat.zero_le _, rfl, rfl, Nat.le_refl _, Nat.zero_le _, .inr ⟨rfl, rfl, rfl⟩, Below.refl _ _⟩
  case round =>
    obtain ⟨k, A', c', hk, rfl, rfl, hkc, hcm, hO, hBel⟩ := hrel
    have HO := Lib.hid hO.out; have HBE := Lib.hid hBel.out
    have zr : w1.heap.size ≤ wr.heap.size := HBE.out.size
    clear hO hBel c0 c1 c2 c3 c4 c5 c6 c7 c8
    by_cases hlt : k < en
    · obtain ⟨bb, off, x, rfl, hbB, hx, y0, y1, y2, y3⟩ := (HE1.out.below HBE.out (by omega)).en hlt
      have hlz : (k : Int) < (en : Int) := by omega
      have HX := Lib.hid hx
      clear hx
      obtain ⟨xn, xd, ⟨d1, d2⟩⟩ := x
      simp only at y0 y1 y2 y3
      have HDS : Hid ((es.take (k + 1)).map Ent.dg = (es.take k).map Ent.dg ++ [(d1, d2)]) := dgs_snoc HX.out
      obtain ⟨W, hW⟩ : ∃ W, wr.alloc (.cells #[.string xn, .bool xd, .int .u64 d1, .int .u64 d2] 111) = W := ⟨_, rfl⟩
      have hbW : Below wr.heap.size wr W := by rw [← hW]; exact (Below.refl _ wr).alloc (Nat.le_refl _) _
      have HKW : Hid (Bk W wr.heap.size 111 #[.string xn, .bool xd, .int .u64 d1, .int .u64 d2]) := by rw [← hW]; exact Bk.new wr _ _
      have eW : W.heap.size = wr.heap.size + 1 := by rw [← hW]; simp
      have HNB : Hid (Bk (W.alloc (.cells #[.int .u64 d1, .int .u64 d2] 42)) (wr.heap.size + 1) 42 #[.int .u64 d1, .int .u64 d2]) := by
        have e := Bk.new W 42 #[.int .u64 d1, .int .u64 d2]
        rwa [eW] at e
      have HOW := Lib.hid (HO.out.below hbW)
      have HBW : Hid (Below w1.heap.size w1 W) := HBE.out.trans (hbW.mono zr)
      have g2 := HKW.out.cell 2; have g3 := HKW.out.cell 3
      simp at g2 g3
      rw [← hW] at g2 g3
      have zW : w1.heap.size ≤ W.heap.size := HBW.out.size
      have HWa := Lib.hid hW
      clear hW hbW eW
      go_wp2_with (at_builtin; refine halt_app9 (.tmp 16) (.tmp 19) 24 rfl ?_)
      rw [HWa.out]
      refine unhalt ?_
      refine wpList_append_apd (base := w1.heap.size) (size := 2) _ rfl (.tmp 16) (.tmp 19) 24 rfl 42 i0 _ 16 Tryz.underlying24 Hi.out Hz0.out Hz1.out Hz2.out rfl (by decide) A' k c' _ rfl (Apd.below HOW.out ((Below.refl _ _).alloc (Nat.le_refl _) _)) _ _ 1 1 (flat dgC [(d1, d2)]) rfl (Sl.of_bk (n := 1) (size := 2) HNB.out rfl) (dgC_one _) (by unfold maxLen; omega) (by omega) (by rw [World.size_alloc]; omega) ?_
      intro A4 c4 w4 ha4 hb4 hn4 hm4 _
      rw [← flat_append, ← HDS.out] at ha4
      have HA4 := Lib.hid ha4
      have HB4 : Hid (Below w1.heap.size w1 w4) := (Below.alloc HBW.out (by omega) _).trans hb4
      clear ha4 hb4
      go_wp2_with fail
      go_roundw
      case rel => exact ⟨k + 1, A4, c4, hlt, by go_num, rfl, hn4, hm4, HA4.out, HB4.out⟩
      case measure => simp [intOf]; omega
    · have hlz : ¬ (k : Int) < (en : Int) := by omega
      have hke : k = en := by omega
      have HT : Hid (es.take k = es) := List.take_of_length_le (by have : es.length = en := HEL.out; omega)
      rw [HT.out] at HO
      obtain ⟨wo, hwo⟩ : ∃ wo, wo = wr := ⟨_, rfl⟩
      subst hwo
      have HKo := Lib.hid (HK1.out.below HBE.out z1)
      have HPo := Lib.hid (HP1.out.below HBE.out (by omega))
      have HBo : Hid (Below w.heap.size w wo) := HB1.out.trans (HBE.out.mono (by omega))
      obtain ⟨c0, c1, c2, c3, c4, c5, c6, c7, c8⟩ := HKo.out.nine
      have HL0 : es.length = en := HEL.out
      have HL1 : ps.length = pn := HPL.out
      by_cases hk3 : k0 = 3
      · subst hk3
        have HLK : Hid (linksO ⟨3, da, es, (t1, t2), ps, au, ti, ms⟩ = (es.map Ent.dg ++ [(t1, t2)]) ++ ps) := by show _ = _; unfold linksO; simp
        have HLL : Hid (k + 1 + pn = (linksO ⟨3, da, es, (t1, t2), ps, au, ti, ms⟩).length) := by show _ = _; rw [HLK.out]; simp only [List.length_append, List.length_map, List.length_singleton]; omega
        have HN3 : Hid (Bk (wo.alloc (.cells #[.int .u64 t1, .int .u64 t2] 42)) wo.heap.size 42 #[.int .u64 t1, .int .u64 t2]) := Bk.new wo _ _
        clear HL0 HL1 hke
        go_wp2_with (at_builtin; refine halt_app9 (.tmp 25) (.tmp 28) 24 rfl ?_)
        refine unhalt ?_
        refine wpList_append_apd (base := w1.heap.size) (size := 2) _ rfl (.tmp 25) (.tmp 28) 24 rfl 42 i0 _ 16 Tryz.underlying24 Hi.out Hz0.out Hz1.out Hz2.out rfl (by decide) A' k c' _ rfl (Apd.below HO.out ((Below.refl _ _).alloc (Nat.le_refl _) _)) _ _ 1 1 (flat dgC [(t1, t2)]) rfl (Sl.of_bk (n := 1) (size := 2) HN3.out rfl) (dgC_one _) (by unfold maxLen; omega) (by omega) (by rw [World.size_alloc]; omega) ?_
        intro A4 c4' w4 ha4 hb4 hn4 hm4 _
        rw [← flat_append] at ha4
        have HA4 := Lib.hid ha4
        have hb4' : Below w1.heap.size wo w4 := (Below.alloc (Below.refl _ wo) (by omega) _).trans hb4
        have HP4 := Lib.hid (HPo.out.below hb4' (by omega))
        have HB4 : Hid (Below w.heap.size w w4) := HBo.out.trans (hb4'.mono (by omega))
        have z4 : w1.heap.size ≤ w4.heap.size := by have := hb4'.size; omega
        have c5 := (hb4'.cell (p := ⟨w.heap.size, 5, none⟩) (by show w.heap.size < _; omega)).trans c5
        clear ha4 hb4 hb4' c0 c1 c2 c3 c4 c6 c7 c8
        go_wp2_with (at_builtin; refine halt_app9 (.tmp 30) (.tmp 32) 24 rfl ?_)
        refine unhalt ?_
        refine wpList_append_apd (base := w1.heap.size) (size := 2) _ rfl (.tmp 30) (.tmp 32) 24 rfl 42 i0 _ 16 Tryz.underlying24 Hi.out Hz0.out Hz1.out Hz2.out rfl (by decide) A4 (k + 1) c4' _ rfl HA4.out B pA pn pc (flat dgC ps) rfl HP4.out (dgC_one _) (by unfold maxLen; omega) (by omega) z4 ?_
        intro A5 c5' w5 ha5 hb5 hn5 hm5 _
        rw [← flat_append, ← HLK.out] at ha5
        have HA5 := Lib.hid ha5
        have HB5 : Hid (Below w.heap.size w w5) := HB4.out.trans (hb5.mono (by omega))
        clear ha5 hb5 c5
        go_wp2_with fail
        go_ret
        exact ⟨A5, k + 1 + pn, c5', HLL.out, rfl, apd_low HA5.out (by omega), HB5.out⟩
      · have HLK : Hid (linksO ⟨k0, da, es, (t1, t2), ps, au, ti, ms⟩ = es.map Ent.dg) := by show _ = _; unfold linksO; simp [hk3]
        have HLL : Hid (k = (linksO ⟨k0, da, es, (t1, t2), ps, au, ti, ms⟩).length) := by show _ = _; rw [HLK.out, List.length_map]; omega
        have hkb : (k0 == 3) = false := by simpa using hk3
        clear HL0 HL1 hke hk3
        go_wp2_with fail
        go_ret
        exact ⟨A', k, c', HLL.out, rfl, by rw [HLK.out]; exact apd_low HO.out (by omega), HBo.out⟩
end Go.Proofs.YtlcecobipgmafaaGreatDoor

namespace Go.Proofs.YtlcecobipgmafaaGreatDoor
open Go.RowKit Go.Maps

def bkO (A : Option Addr) : Option Nat := A.map Addr.block
theorem own_bkO (A : Option Addr) (n c : Nat) : (Value.slice A n c).ownBlock = bkO A := by cases A <;> rfl
section
variable {P : Program} {w : World} {base size n c : Nat} {e : TypeId} {A : Option Addr} {xs : List Value}
theorem run_append_dj (t ty : TypeId) (i : TypeInfo) (z : Value) (bytes : Nat) (ht : P.underlying t = some (.slice e)) (hi : P.info? e = some i) (hz : i.zero = some z)
    (hsize : i.size = size) (hby : i.bytes = bytes) (hzs : z.cells.size = size) (hsz : 0 < size) (hown : w.ownsRow base e size (.slice A n c) n xs)
    {B : Nat} {A' : Option Addr} {m c' : Nat} {ys : List Value} (hsl : Sl w B size A' m ys) (h1 : ∀ u ∈ ys, u.oneCell' = true) (hm : 0 < m)
    (h63 : n + m ≤ maxLen) (hbytes : (n + m) * bytes ≤ 140737488355328) (hbase : base ≤ w.heap.size) :
    ∃ A2 c2 w', (Builtin.append_ #[t, t] ty #[.slice A n c, .slice A' m c']).run P w = .ok (.slice A2 (n + m) c2) w' ∧ w'.ownsRow base e size (.slice A2 (n + m) c2) (n + m) (xs ++ ys) ∧ w.grownBy w' (bkO A) ∧ n + m ≤ c2 ∧ c2 ≤ maxLen ∧ ∀ g, bkO A2 = some g → bkO A = some g ∨ w.heap.size ≤ g := by
  obtain ⟨A2, c2, w', hr, ho', hg, hc1, hc2⟩ := run_append_sl (P := P) t ty i z bytes ht hi hz hsize hby hzs hsz hown (c := c') hsl h1 h63 hbytes hbase
  obtain ⟨A3, c3, w3, row, hr2, _, _, _, h5⟩ := run_append_que (P := P) t ty i z bytes ht hi hz hsize hby hzs hsz (Que.of_own hown) (c' := c') hsl h1 hm h63 hbytes hbase
  rw [hr] at hr2
  injection hr2 with e1 e2
  injection e1 with e3 e4 e5
  subst e3; subst e5; subst e2
  rw [own_bkO] at hg
  refine ⟨A2, c2, w', hr, ho', hg, hc1, hc2, fun g hgb => ?_⟩
  rcases ho'.2 with ⟨hv, _⟩ | ⟨g', cap, cur, hv, _⟩
  · simp at hv
    rw [hv.1] at hgb; cases hgb
  · simp at hv
    obtain ⟨rfl, _⟩ := hv
    have : g' = g := Option.some.inj hgb
    subst this
    rcases h5 g' 0 rfl with ⟨_, off, h⟩ | h
    · rw [h]; exact .inl rfl
    · exact .inr h
theorem wpList_append_dj {ops : Array Oper} {rest : List Oper} {o : Oper} {a : Act} {Q : Exit → Act → World → Prop} (hgd : o.guard = none) (s x : Operand) (t : TypeId)
    (ho : o.op = .call { callee := .builtin .append, args := #[s, x], argTypes := #[t, t] })
    (e : TypeId) (i : TypeInfo) (z : Value) (bytes : Nat) (ht : P.underlying t = some (.slice e)) (hi : P.info? e = some i) (hz : i.zero = some z)
    (hsize : i.size = size) (hby : i.bytes = bytes) (hzs : z.cells.size = size) (hsz : 0 < size)
    (A : Option Addr) (n c : Nat) (xs : List Value) (hs : a.eval s = .slice A n c) (hown : w.ownsRow base e size (.slice A n c) n xs)
    (B : Nat) (A' : Option Addr) (m c' : Nat) (ys : List Value) (hx : a.eval x = .slice A' m c') (hsl : Sl w B size A' m ys) (h1 : ∀ u ∈ ys, u.oneCell' = true) (hm : 0 < m)
    (h63 : n + m ≤ maxLen) (hbytes : (n + m) * bytes ≤ 140737488355328) (hbase : base ≤ w.heap.size)
    (h : ∀ A2 c2 w', w'.ownsRow base e size (.slice A2 (n + m) c2) (n + m) (xs ++ ys) → w.grownBy w' (bkO A) → n + m ≤ c2 → c2 ≤ maxLen → (∀ g, bkO A2 = some g → bkO A = some g ∨ w.heap.size ≤ g) → wpList P ops Q rest (a.put o.dst (.slice A2 (n + m) c2)) w') : wpList P ops Q (o :: rest) a w := by
  refine wpList_plain hgd fun K hK => ?_
  obtain ⟨A2, c2, w', hr, ho', hg, hc1, hc2, hd⟩ := run_append_dj (P := P) t o.type i z bytes ht hi hz hsize hby hzs hsz hown (c' := c') hsl h1 hm h63 hbytes hbase
  unfold Oper.wp
  simp [execOp, ho, resolve, invoke, builtin, hs, hx, hr, Result.andThen]
  exact hK _ _ (h A2 c2 w' ho' hg hc1 hc2 hd)
end
structure Rw3 (w : World) (base : Nat) (e : TypeId) (A1 : Option Addr) (n1 c1 : Nat) (A2 : Option Addr) (n2 c2 : Nat) (A3 : Option Addr) (n3 c3 : Nat) (l1 l2 l3 : List Dig) : Prop where
  a : w.ownsRow base e 2 (.slice A1 n1 c1) n1 (flat dgC l1)
  b : w.ownsRow base e 2 (.slice A2 n2 c2) n2 (flat dgC l2)
  c : w.ownsRow base e 2 (.slice A3 n3 c3) n3 (flat dgC l3)
  ab : ∀ g, bkO A1 = some g → bkO A2 ≠ some g
  bc : ∀ g, bkO A2 = some g → bkO A3 ≠ some g
  ca : ∀ g, bkO A3 = some g → bkO A1 ≠ some g
section
variable {w w' : World} {base n1 c1 n2 c2 n3 c3 : Nat} {e : TypeId} {A1 A2 A3 : Option Addr} {l1 l2 l3 : List Dig}
theorem Rw3.rot (h : Rw3 w base e A1 n1 c1 A2 n2 c2 A3 n3 c3 l1 l2 l3) : Rw3 w base e A2 n2 c2 A3 n3 c3 A1 n1 c1 l2 l3 l1 := ⟨h.b, h.c, h.a, h.bc, h.ca, h.ab⟩
theorem Rw3.upon (h : Rw3 w base e A1 n1 c1 A2 n2 c2 A3 n3 c3 l1 l2 l3) (hb : Below w.heap.size w w') : Rw3 w' base e A1 n1 c1 A2 n2 c2 A3 n3 c3 l1 l2 l3 :=
  ⟨ownsRow_upon h.a hb, ownsRow_upon h.b hb, ownsRow_upon h.c hb, h.ab, h.bc, h.ca⟩
theorem own_grown {n c : Nat} {A : Option Addr} {xs : List Value} {row : Option Nat} (h : w.ownsRow base e 2 (.slice A n c) n xs) (hg : w.grownBy w' row) (hn : ∀ g, bkO A = some g → row ≠ some g) : w'.ownsRow base e 2 (.slice A n c) n xs := by
  refine ⟨h.1, ?_⟩
  rcases h.2 with h2 | ⟨g, cap, cur, hv, h1, h2, h3⟩
  · exact .inl h2
  · refine .inr ⟨g, cap, cur, hv, h1, (hg.block g (Array.getElem?_eq_some_iff.1 h2).1 fun e => ?_).trans h2, h3⟩
    simp at hv
    exact hn g (by rw [hv.1]; rfl) e.symm
theorem Rw3.grown {row : Nat} (h : Rw3 w base e A1 n1 c1 A2 n2 c2 A3 n3 c3 l1 l2 l3) (hg : w.grownBy w' (some row)) (hn : ∀ cs, w.heap[row]? ≠ some (.cells cs e (0, 0))) : Rw3 w' base e A1 n1 c1 A2 n2 c2 A3 n3 c3 l1 l2 l3 := by
  have key : ∀ {n c : Nat} {A : Option Addr} {xs : List Value}, w.ownsRow base e 2 (.slice A n c) n xs → w'.ownsRow base e 2 (.slice A n c) n xs := fun {n c A xs} h => own_grown h hg fun g hgb e => by
    cases e
    rcases h.2 with ⟨hv, _⟩ | ⟨g, cap, cur, hv, _, h2, _⟩
    · simp at hv; rw [hv.1] at hgb; cases hgb
    · simp at hv; rw [hv.1] at hgb; cases hgb; exact hn cur h2
  exact ⟨key h.a, key h.b, key h.c, h.ab, h.bc, h.ca⟩
theorem Rw3.app {A : Option Addr} {n c : Nat} {l : List Dig} (h : Rw3 w base e A1 n1 c1 A2 n2 c2 A3 n3 c3 l1 l2 l3) (ho : w'.ownsRow base e 2 (.slice A n c) n (flat dgC l)) (hg : w.grownBy w' (bkO A1)) (hd : ∀ g, bkO A = some g → bkO A1 = some g ∨ w.heap.size ≤ g) : Rw3 w' base e A n c A2 n2 c2 A3 n3 c3 l l2 l3 := by
  have lt : ∀ {n c : Nat} {A : Option Addr} {xs : List Value}, w.ownsRow base e 2 (.slice A n c) n xs → ∀ g, bkO A = some g → g < w.heap.size := fun {n c A xs} h g hgb => (h.lt g (by rw [own_bkO]; exact hgb)).2
  refine ⟨ho, own_grown h.b hg fun g h2 e => h.ab g e h2, own_grown h.c hg fun g h2 e => h.ca g h2 e, fun g hgb h2 => ?_, h.bc, fun g h2 hgb => ?_⟩
  · rcases hd g hgb with h3 | h3
    · exact h.ab g h3 h2
    · have := lt h.b g h2; omega
  · rcases hd g hgb with h3 | h3
    · exact h.ca g h2 h3
    · have := lt h.c g h2; omega
theorem own_pop {n c : Nat} {A : Option Addr} {l : List Dig} {d : Dig} (h : w.ownsRow base e 2 (.slice A (n + 1) c) (n + 1) (flat dgC (l ++ [d]))) : w.ownsRow base e 2 (.slice A n c) n (flat dgC l) := by
  have hl : (flat dgC l).length = n * 2 := by
    have h1 := h.1
    rw [flat_append, List.length_append] at h1
    have : (flat dgC [d]).length = 2 := rfl
    omega
  refine ⟨hl, ?_⟩
  rcases h.2 with ⟨_, h2⟩ | ⟨g, cap, cur, hv, h1, h2, h3, h4, h5, h6⟩
  · omega
  · simp at hv
    obtain ⟨rfl, rfl⟩ := hv
    refine .inr ⟨g, c, cur, rfl, h1, h2, by omega, h4, h5, ?_⟩
    have := congrArg (List.take (n * 2)) h6
    rw [List.take_take, flat_append, ← hl, List.take_left] at this
    rw [hl] at this
    have e2 : min (n * 2) ((n + 1) * 2) = n * 2 := by omega
    rwa [e2] at this
theorem Rw3.pop {d : Dig} (h : Rw3 w base e A1 (n1 + 1) c1 A2 n2 c2 A3 n3 c3 (l1 ++ [d]) l2 l3) : Rw3 w base e A1 n1 c1 A2 n2 c2 A3 n3 c3 l1 l2 l3 :=
  ⟨own_pop h.a, h.b, h.c, h.ab, h.bc, h.ca⟩
end
def Cl9E (l : List Dig) (n : Nat) (w : World) (e : Ending) (w' : World) : Prop :=
  ∃ A c, e = .returned (.slice A n c) ∧ w'.ownsRow w.heap.size 42 2 (.slice A n c) n (flat dgC l) ∧ Below w.heap.size w w'
set_option maxRecDepth 100000 in
set_option maxHeartbeats 2000000 in
theorem sclone_any (A : Option Addr) (n c B : Nat) (l : List Dig) (w : World) (h0 : Sl w B 2 A n (flat dgC l)) (hB : B ≤ w.heap.size) (hn : n ≤ 1000000) :
    Calls Tryz.prog 39 #[.slice A n c] w (Cl9E l n w) := by
  have H0 := Lib.hid h0
  have HL := Lib.hid (h0.len dgC_len (by omega))
  obtain ⟨i0, hi, hz0, hz1, hz2⟩ := info_parts infoDg
  have Hi := Lib.hid hi; have Hz0 := Lib.hid hz0; have Hz1 := Lib.hid hz1; have Hz2 := Lib.hid hz2
  clear hi hz0 hz1 hz2 h0
  cases A with
  | none =>
    have hn0 : n = 0 := by
      rcases Nat.eq_zero_or_pos n with h | h
      · exact h
      · obtain ⟨_, _, e, _⟩ := H0.out.2 h; cases e
    subst hn0
    have hl : l = [] := List.eq_nil_of_length_eq_zero HL.out
    subst hl
    have hnil : ∀ W, (binOp .eql 24 (.slice none 0 c) (.slice none 0 0)).run Tryz.prog W = .ok (.bool true) W := fun W => Lib.run_eql_slice_nil_nil W _ _ Tryz.underlying24
    go_enter Tryz.func39, Tryz.ntmps39
    go_wp2_with fail
    go_ret
    exact ⟨none, 0, rfl, ⟨rfl, .inl ⟨rfl, rfl⟩⟩, Below.refl _ _⟩
  | some a =>
    obtain ⟨W, hW⟩ : ∃ W, w.alloc (.cells #[] 42) = W := ⟨_, rfl⟩
    have hb : Below w.heap.size w W := by rw [← hW]; exact (Below.refl _ w).alloc (Nat.le_refl _) _
    have HO : Hid (W.ownsRow w.heap.size 42 2 (.slice (some ⟨w.heap.size, 0, none⟩) 0 0) 0 []) := by
      rw [← hW]; exact ⟨rfl, .inr ⟨w.heap.size, 0, #[], rfl, Nat.le_refl _, heap_alloc_new w _, Nat.le_refl _, Nat.zero_le _, rfl, rfl⟩⟩
    have HS := Lib.hid (H0.out.below hb hB)
    have HB := Lib.hid hb
    have HW := Lib.hid hW
    have hnil : ∀ W, (binOp .eql 24 (.slice (some a) n c) (.slice none 0 0)).run Tryz.prog W = .ok (.bool false) W := fun W => Lib.run_eql_slice_some_nil W _ _ _ Tryz.underlying24
    clear hW hb
    go_enter Tryz.func39, Tryz.ntmps39
    go_wp2_with (at_builtin; refine halt_app9 (.tmp 5) (.tmp 6) 24 rfl ?_)
    rw [HW.out]
    refine unhalt ?_
    refine wpList_append_sl (base := w.heap.size) (size := 2) _ rfl (.tmp 5) (.tmp 6) 24 rfl 42 i0 _ 16 Tryz.underlying24 Hi.out Hz0.out Hz1.out Hz2.out rfl (by decide) _ 0 [] rfl HO.out B (some a) n c (flat dgC l) rfl HS.out (dgC_one _) (by unfold maxLen; omega) (by omega) HB.out.size ?_
    intro A2 c2 w2 ho2 hg2 _ _
    rw [List.nil_append] at ho2
    have HO2 := Lib.hid ho2
    have HB2 : Hid (Below w.heap.size w w2) := HB.out.grown hg2 HB.out.size (fun g e => by cases e; exact Nat.le_refl _)
    clear ho2 hg2
    rw [Nat.zero_add] at HO2 ⊢
    go_wp2_with fail
    go_ret
    exact ⟨A2, c2, rfl, HO2.out, HB2.out⟩
end Go.Proofs.YtlcecobipgmafaaGreatDoor

namespace Go.Proofs.YtlcecobipgmafaaGreatDoor
open Go.RowKit Go.Maps

def ReE (p : List Itm) (rs : List Dig) (w : World) (e : Ending) (w' : World) : Prop :=
  ∃ l m A1 c1 A2 c2, e = .returned (.tuple #[.slice A1 l.length c1, .slice A2 m.length c2]) ∧ RchdR p rs l m ∧ Sl w' w'.heap.size 2 A1 l.length (flat dgC l) ∧ l.length ≤ 9000 ∧ (∀ d ∈ l, WfD d) ∧ Below w.heap.size w w'
theorem dgOk_zD : dgOk zD := dgOk_of wf_zD
theorem ok_ents_few {o : Ob} (h : OkO o) : o.ents.length ≤ 200 := by
  cases h.f with
  | blob _ e _ _ => rw [e]; simp
  | tree _ _ _ e => exact e.few
  | commit _ _ e _ => rw [e]; simp
theorem sl_apart {w w' : World} {B size n : Nat} {A : Option Addr} {xs : List Value} {row : Option Nat} (h : Sl w B size A n xs) (hg : w.grownBy w' row) (hB : B ≤ w.heap.size) (hd : 0 < n → ∀ g, bkO A = some g → row ≠ some g) : Sl w' B size A n xs := by
  refine ⟨h.1, fun h0 => ?_⟩
  obtain ⟨b', off, rfl, hb', hc⟩ := h.2 h0
  exact ⟨b', off, rfl, hb', fun j u hu => (World.cell?_of_block (hg.block b' (by omega) (fun e => hd h0 b' rfl e.symm))).trans (hc j u hu)⟩
theorem bk_map {w : World} {base n c mb N : Nat} {A : Option Addr} {xs : List Value} {met : Dig → Bool} (h : w.ownsRow base 42 2 (.slice A n c) n xs) (hs : Sd w mb N met) : ∀ g, bkO A = some g → g ≠ mb := by
  intro g hg e
  subst e
  rcases h.2 with ⟨hv, _⟩ | ⟨g', cap, cur, hv, _, h2, _⟩
  · simp at hv; rw [hv.1] at hg; cases hg
  · simp at hv
    rw [hv.1] at hg
    have : g' = g := Option.some.inj hg
    subst this
    obtain ⟨D, ⟨es, clock, h3, _⟩, _⟩ := hs
    rw [h3] at h2; cases h2
set_option maxRecDepth 100000 in
set_option maxHeartbeats 32000000 in
theorem preach_any (p : List Itm) (pA : Option Addr) (pn pc : Nat) (rs : List Dig) (hA : Option Addr) (hn hc : Nat) (B : Nat) (w : World)
    (h0 : Sl w B 3 pA pn (flat itC p)) (h1 : Sl w B 2 hA hn (flat dgC rs)) (hB : B ≤ w.heap.size) (hpo : PlOk p) (hpn : pn ≤ 40) (hh : ∀ d ∈ rs, WfD d) (hhn : hn ≤ 8) :
    Calls Tryz.prog 21 #[.slice pA pn pc, .slice hA hn hc] w (ReE p rs w) := by
  have HPO := Lib.hid hpo; have HH := Lib.hid hh
  have HP := Lib.hid h0; have HR := Lib.hid h1
  have HPL := Lib.hid (h0.len itC_len (by omega)); have HRL := Lib.hid (h1.len dgC_len (by omega))
  have HUL : Hid ((reU p rs).length ≤ 9000) := reU_len hpo (by rw [HPL.out]; omega) (by rw [HRL.out]; omega)
  obtain ⟨i0, hi, hz0, hz1, hz2⟩ := info_parts infoDg
  have Hi := Lib.hid hi; have Hz0 := Lib.hid hz0; have Hz1 := Lib.hid hz1; have Hz2 := Lib.hid hz2
  have hmm := @run_makeMap Tryz.prog
  obtain ⟨W1, hput, hS1, hg1⟩ := (Sd.made w).put keyD Tryz.underlying62 (by unfold maxLen; omega) dgOk_zD (.bool true)
  have hput2 : (Instr.mapUpdate 62 (.map (some w.heap.size)) (.agg #[.int .u64 0, .int .u64 0]) (.bool true)).run Tryz.prog (w.alloc (.map #[] 0)) = .ok () W1 := hput
  have HS1 : Hid (Sd W1 w.heap.size 1 (setB (fun _ => false) zD)) := by
    show Gm _ _ _ _ _ _ _ (sv _)
    rw [← sv_put]; exact hS1
  have HB1 : Hid (Below w.heap.size w W1) := ((Below.refl w.heap.size w).alloc (Nat.le_refl _) _).grown hg1 (by simp) (fun g e => by cases e; exact Nat.le_refl _)
  have HC := Lib.hid (sclone_any hA hn hc W1.heap.size rs W1 ((h1.below HB1.out hB).more (by have := HB1.out.size; omega)) (Nat.le_refl _) (by omega))
  unfold Cl9E at HC
  clear hpo hh h0 h1 hi hz0 hz1 hz2 hput hS1 hg1
  go_enter Tryz.func21, Tryz.ntmps21
  go_wp2_with fail
  refine HC.out.mono ?_
  rintro e w2 ⟨A3, c3, rfl, ho3, hb2⟩
  have HO3 := Lib.hid (ownsRow_low ho3 HB1.out.size)
  have HS2 := Lib.hid (HS1.out.below hb2 HS1.out.lt)
  have HB2 : Hid (Below w.heap.size w w2) := HB1.out.trans (hb2.mono HB1.out.size)
  have z2 : w.heap.size < w2.heap.size := HS2.out.lt
  clear ho3 hb2 HC hmm hput2 HS1 HB1
  go_wp2_with fail
  go_loopg [6, 7, 9] 10000000 (fun gk v6 v7 v9 wr => ∃ (met : Dig → Bool) (N n1 n2 n3 : Nat) (rl rm op : List Dig) (A1 A2 A3 : Option Addr) (c1 c2 c3 : Nat), v6 = .slice A1 n1 c1 ∧ v7 = .slice A2 n2 c2 ∧ v9 = .slice A3 n3 c3 ∧ Hid (ReI p rs met rl rm op) ∧ Hid (Sd wr w.heap.size N met) ∧ Hid (Rw3 wr w.heap.size 42 A1 n1 c1 A2 n2 c2 A3 n3 c3 rl rm op) ∧ Hid (Below w.heap.size w wr) ∧ Hid (rl.length = n1 ∧ rm.length = n2 ∧ op.length = n3) ∧ Hid (unmet (reU p rs) met * 1000 + n3 ≤ gk) ∧ gk ≤ 10000000 ∧ N + gk ≤ 20000000)
  case atStart =>
    exact ⟨_, 1, 0, 0, hn, [], [], rs, none, none, A3, 0, 0, c3, rfl, rfl, rfl, ReI.start p rs, HS2.out, ⟨⟨rfl, .inl ⟨rfl, rfl⟩⟩, ⟨rfl, .inl ⟨rfl, rfl⟩⟩, HO3.out, (fun g h => by cases h), (fun g h => by cases h), (fun g _ h => by cases h)⟩, HB2.out, ⟨rfl, rfl, HRL.out⟩, by have := unmet_le (reU p rs) (setB (fun _ => false) zD); have := HUL.out; show _ ≤ _; omega, Nat.le_refl _, by omega⟩
  case round =>
    obtain ⟨met, N, n1, n2, n3, rl, rm, op, A1, A2, A3, c1, c2, c3, rfl, rfl, rfl, hI, hS, hRw, hBw, hlens, hU, hgk, hNk⟩ := hrel
    have HI := Lib.hid hI.out; have HS := Lib.hid hS.out; have HRw := Lib.hid hRw.out; have HBw := Lib.hid hBw.out; have HLN := Lib.hid hlens.out; have HU := Lib.hid hU.out
    have hl1 : n1 ≤ 9000 := by
      rw [← HLN.out.1]
      exact Nat.le_trans (nodup_le HI.out.nl fun x hx => reU_mem HPO.out (HI.out.l x hx).2.1) HUL.out
    have hl2 : n2 ≤ 9000 := by
      rw [← HLN.out.2.1]
      exact Nat.le_trans (nodup_le HI.out.nm fun x hx => reU_mem HPO.out (HI.out.m x hx).2.1) HUL.out
    have hl3 : n3 ≤ 10000000 := by have := HU.out; omega
    have zr : w.heap.size ≤ wr.heap.size := HBw.out.size
    have hms : w.heap.size < wr.heap.size := HS.out.lt
    clear hI hS hRw hBw hlens hU HS2 HB2 HO3
    by_cases h30 : n3 = 0
    · subst h30
      have hop : op = [] := List.eq_nil_of_length_eq_zero HLN.out.2.2
      subst hop
      obtain ⟨wo, hwo⟩ : ∃ wo, wo = wr := ⟨_, rfl⟩
      subst hwo
      have HSA := Lib.hid (sortDig_any w.heap.size n1 c1 A1 rl wo HRw.out.a (by omega))
      go_wp2_with fail
      refine HSA.out.mono ?_
      rintro e w4 ⟨rfl, us, hpe, _, hou, hgu⟩
      rw [own_bkO] at hgu
      have HOB : Hid (w4.ownsRow w.heap.size 42 2 (.slice A2 n2 c2) n2 (flat dgC rm)) := own_grown HRw.out.b hgu fun g h2 e => HRw.out.ab g e h2
      have HOA := Lib.hid hou; have HPE := Lib.hid hpe
      have HB4 : Hid (Below w.heap.size w w4) := HBw.out.grown hgu zr (fun g e => (HRw.out.a.lt g (by rw [own_bkO]; exact e)).1)
      have HSB := Lib.hid (sortDig_any w.heap.size n2 c2 A2 rm w4 HOB.out (by omega))
      clear hpe hou hgu HSA
      go_wp2_with fail
      refine HSB.out.mono ?_
      rintro e w5 ⟨rfl, us2, hpe2, _, hou2, hgu2⟩
      rw [own_bkO] at hgu2
      have HOA5 : Hid (w5.ownsRow w.heap.size 42 2 (.slice A1 n1 c1) n1 (flat dgC us)) := own_grown HOA.out hgu2 fun g h2 e => HRw.out.ab g h2 e
      have HB5 : Hid (Below w.heap.size w w5) := HB4.out.grown hgu2 HB4.out.size (fun g e => (HOB.out.lt g (by rw [own_bkO]; exact e)).1)
      have HPE2 := Lib.hid hpe2
      clear hpe2 hou2 hgu2 HSB
      go_wp2_with fail
      go_ret2
      have e1 : us.length = n1 := by rw [HPE.out.length_eq]; exact HLN.out.1
      have e2 : us2.length = n2 := by rw [HPE2.out.length_eq]; exact HLN.out.2.1
      refine ⟨us, us2, A1, c1, A2, c2, by rw [e1, e2]; rfl, HI.out.end_ HPO.out (fun d => HPE.out.mem_iff) (fun d => HPE2.out.mem_iff), by rw [e1]; exact Sl.of_own HOA5.out, by rw [e1]; exact hl1, fun d hd => rchd_wf HPO.out HH.out (HI.out.l d (HPE.out.mem_iff.1 hd)).2.1, HB5.out⟩
    · obtain ⟨m, rfl⟩ : ∃ m, n3 = m + 1 := ⟨n3 - 1, by omega⟩
      have hne : op ≠ [] := by intro e; have := HLN.out.2.2; rw [e] at this; simp at this
      obtain ⟨l, d, hld⟩ : ∃ l d, op = l ++ [d] := ⟨_, _, (List.dropLast_concat_getLast hne).symm⟩
      subst hld
      have hlm : l.length = m := by have := HLN.out.2.2; simpa using this
      obtain ⟨bb, off, x, rfl, hbB, hx, y0, y1⟩ := (Sl.of_own HRw.out.c).dg (k := m) (by omega)
      have hxd : x = d := by rw [← hlm, List.getElem?_append_right (Nat.le_refl _)] at hx; simpa using hx.symm
      subst hxd
      have hdU : x ∈ reU p rs := reU_mem HPO.out (HI.out.o x (List.mem_append_right _ (List.mem_singleton.2 rfl)))
      have HDU := Lib.hid hdU
      have HDW : Hid (WfD x) := rchd_wf HPO.out HH.out (HI.out.o x (List.mem_append_right _ (List.mem_singleton.2 rfl)))
      have hmc := (Que.of_own HRw.out.c).le
      have HRp := Lib.hid (HRw.out.rot.rot.pop)
      have HLM := Lib.hid hlm
      obtain ⟨d1, d2⟩ := x
      simp only at y0 y1
      obtain ⟨W, hW⟩ : ∃ W, wr.alloc (.cells #[.int .u64 d1, .int .u64 d2] 42) = W := ⟨_, rfl⟩
      have hbW : Below wr.heap.size wr W := by rw [← hW]; exact (Below.refl _ wr).alloc (Nat.le_refl _) _
      have HKW : Hid (Bk W wr.heap.size 42 #[.int .u64 d1, .int .u64 d2]) := by rw [← hW]; exact Bk.new wr _ _
      have HSW := Lib.hid (HS.out.below hbW hms)
      have HRW := Lib.hid (HRp.out.upon hbW)
      have HBW : Hid (Below w.heap.size w W) := HBw.out.trans (hbW.mono zr)
      have hlk := Sd.look (d := (d1, d2)) HSW.out Tryz.underlying62 (dgOk_of HDW.out)
      have tk := run_slice_to (P := Tryz.prog) 24 i0 Tryz.underlying24 Hi.out (some ⟨bb, off, none⟩) (m + 1) c3 m (by omega)
      have hw1 : IntKind.i64.wrap (((m + 1 : Nat) : Int) - 1) = (m : Int) := by rw [wrap_sm (by omega) (by omega)]; omega
      have hj0 : (0 : Int) < ((m + 1 : Nat) : Int) := by omega
      have hj1 : ¬ (m : Int) < 0 := by omega
      have hj2 : (m : Int) < ((m + 1 : Nat) : Int) := by omega
      obtain ⟨r0, r1, _, _⟩ := HKW.out.two
      rw [← hW] at r0 r1 hlk
      have HWa := Lib.hid hW
      simp only at hlk
      clear hx hne hlm hdU hW hbW HRw h30 HRp
      cases hmd : met (d1, d2) with
      | true =>
        rw [hmd] at hlk
        have HIN := Lib.hid (HI.out.skip hmd)
        clear hmd
        go_wp2_with fail
        rw [HWa.out]
        go_roundg (gk - 1)
        case rel => exact ⟨met, N, n1, n2, m, rl, rm, l, A1, A2, _, c1, c2, c3, rfl, rfl, rfl, HIN.out, HSW.out, HRW.out.rot, HBW.out, ⟨HLN.out.1, HLN.out.2.1, HLM.out⟩, by have := HU.out; show _ ≤ _; omega, by omega, by omega⟩
        case measure => have := HU.out; omega
      | false =>
        rw [hmd] at hlk
        have HMF := Lib.hid hmd
        have HUM := Lib.hid (unmet_less (U := reU p rs) (met := met) HDU.out hmd)
        clear hmd
        go_wp2_with (at_mapUpdate; refine halt_ ?_)
        rw [HWa.out]
        go_wp2_with (at_mapUpdate; refine halt_ ?_)
        refine unhalt ?_
        refine wpList_put_sd rfl _ _ _ 62 rfl Tryz.underlying62 w.heap.size N met rfl HSW.out (by unfold maxLen; omega) (d1, d2) (dgOk_of HDW.out) rfl rfl ?_
        intro w3 hS3 hg3
        have HS3 := Lib.hid hS3
        have HR3 := Lib.hid (HRW.out.grown hg3 fun cs e => by obtain ⟨D, ⟨es, clock, h3, _⟩, _⟩ := HSW.out; rw [h3] at e; cases e)
        have HB3 : Hid (Below w.heap.size w w3) := HBW.out.grown hg3 HBW.out.size (fun g e => by cases e; exact Nat.le_refl _)
        have hne9 : wr.heap.size ≠ w.heap.size := by omega
        have HK3 := Lib.hid (HKW.out.grown hg3 (fun e => hne9 (Option.some.inj e)))
        have hs3 : wr.heap.size < w3.heap.size := HK3.out.lt
        clear hS3 hg3 r0 r1 hlk tk hw1 HWa HSW HRW HBW HKW hj0 hj1 hj2 y0 y1
        have HG := Lib.hid (pget_any pA pn pc B p (d1, d2) w3 (HP.out.below HB3.out hB) (by omega) (by omega) HPO.out)
        unfold GeE at HG
        simp only [digV] at HG
        obtain ⟨r0, r1, _, _⟩ := HK3.out.two
        go_wp2_with fail
        refine HG.out.mono ?_
        rintro e w4 ⟨hq, hb4⟩
        have HS4 := Lib.hid (HS3.out.below hb4 HS3.out.lt)
        have HR4 := Lib.hid (HR3.out.upon hb4)
        have HB4 : Hid (Below w.heap.size w w4) := HB3.out.trans (hb4.mono HB3.out.size)
        have HK4 := Lib.hid (HK3.out.below hb4 hs3)
        have z34 : w3.heap.size ≤ w4.heap.size := hb4.size
        have HLT : Hid (∀ g, bkO A1 = some g → g < w3.heap.size) := fun g h => (HR3.out.b.lt g (by rw [own_bkO]; exact h)).2
        clear hb4 HG r0 r1 HS3 HR3 HB3 HK3
        have hk4 : wr.heap.size < w4.heap.size := HK4.out.lt
        rcases hq with ⟨o, s, hg, hok, rfl, hom, hno, hnp⟩ | ⟨hg, rfl⟩
        case inr =>
          have HIN := Lib.hid (HI.out.miss HMF.out hg)
          clear hg
          simp only [obV, obC, zOb, zOs, zD]
          obtain ⟨W5, hW5⟩ : ∃ W, w4.alloc (.cells #[.int .i64 0, .string ⟨#[]⟩, .slice none 0 0, .int .u64 0, .int .u64 0, .slice none 0 0, .string ⟨#[]⟩, .int .i64 0, .string ⟨#[]⟩] 75) = W := ⟨_, rfl⟩
          have hb5 : Below w4.heap.size w4 W5 := by rw [← hW5]; exact (Below.refl _ w4).alloc (Nat.le_refl _) _
          have e5 : W5.heap.size = w4.heap.size + 1 := by rw [← hW5]; simp
          have HK5 := Lib.hid (HK4.out.below hb5 hk4)
          have HNB : Hid (Bk (W5.alloc (.cells #[.int .u64 d1, .int .u64 d2] 42)) (w4.heap.size + 1) 42 #[.int .u64 d1, .int .u64 d2]) := by
            have e := Bk.new W5 42 #[.int .u64 d1, .int .u64 d2]
            rwa [e5] at e
          have hb6 : Below w4.heap.size w4 (W5.alloc (.cells #[.int .u64 d1, .int .u64 d2] 42)) := hb5.alloc (by omega) _
          have HR6 := Lib.hid (HR4.out.upon hb6)
          have HS6 := Lib.hid (HS4.out.below hb6 HS4.out.lt)
          have HB6 : Hid (Below w.heap.size w (W5.alloc (.cells #[.int .u64 d1, .int .u64 d2] 42))) := HB4.out.trans (hb6.mono HB4.out.size)
          obtain ⟨r0, r1, _, _⟩ := HK5.out.two
          rw [← hW5] at r0 r1
          have HWa := Lib.hid hW5
          clear hW5 hb5 hb6 e5
          go_wp2_with (at_builtin; refine halt_app9 (.tmp 47) (.tmp 49) 24 rfl ?_)
          rw [HWa.out]
          refine unhalt ?_
          refine wpList_append_dj (base := w.heap.size) (size := 2) rfl (.tmp 47) (.tmp 49) 24 rfl 42 i0 _ 16 Tryz.underlying24 Hi.out Hz0.out Hz1.out Hz2.out rfl (by decide) A2 n2 c2 (flat dgC rm) rfl HR6.out.rot.rot.a _ _ 1 1 (flat dgC [(d1, d2)]) rfl (Sl.of_bk (n := 1) (size := 2) HNB.out rfl) (dgC_one _) (by omega) (by unfold maxLen; omega) (by omega) HB6.out.size ?_
          intro A6 c6 w6 ho6 hg6 _ _ hd6
          rw [← flat_append] at ho6
          have HR7 := Lib.hid (HR6.out.rot.rot.app ho6 hg6 hd6)
          have HS7 := Lib.hid (HS6.out.kept hg6 fun e => bk_map HR6.out.rot.rot.a HS6.out _ e.symm rfl)
          have HB7 : Hid (Below w.heap.size w w6) := HB6.out.grown hg6 HB6.out.size (fun g e => (HR6.out.rot.rot.a.lt g (by rw [own_bkO]; exact e)).1)
          clear ho6 hg6 hd6 r0 r1
          go_wp2_with fail
          go_roundg (gk - 1)
          case rel => exact ⟨_, N + 1, n1, n2 + 1, m, rl, rm ++ [(d1, d2)], l, A1, A6, _, c1, c6, c3, rfl, rfl, rfl, HIN.out, HS7.out, HR7.out.rot.rot, HB7.out, ⟨HLN.out.1, by rw [List.length_append, HLN.out.2.1]; rfl, HLM.out⟩, by have := HU.out; have := HUM.out; show _ ≤ _; omega, by omega, by have := HU.out; omega⟩
          case measure => have := HU.out; omega
        case inl =>
          have HRD : Hid (Rchd p rs (d1, d2)) := HI.out.o _ (List.mem_append_right _ (List.mem_singleton.2 rfl))
          have HJ0 := Lib.hid (HI.out.got HMF.out hg)
          have HG4 := Lib.hid hg; have HOK := Lib.hid hok
          obtain ⟨W5, hW5⟩ : ∃ W, w4.alloc (.cells (obC o s) 75) = W := ⟨_, rfl⟩
          have hb5 : Below w4.heap.size w4 W5 := by rw [← hW5]; exact (Below.refl _ w4).alloc (Nat.le_refl _) _
          have e5 : W5.heap.size = w4.heap.size + 1 := by rw [← hW5]; simp
          have HOB5 : Hid (Bk W5 w4.heap.size 75 (obC o s)) := by rw [← hW5]; exact Bk.new w4 _ _
          have HK5 := Lib.hid (HK4.out.below hb5 hk4)
          obtain ⟨W6, hW6⟩ : ∃ W, W5.alloc (.cells #[.int .u64 d1, .int .u64 d2] 42) = W := ⟨_, rfl⟩
          have hb56 : Below W5.heap.size W5 W6 := by rw [← hW6]; exact (Below.refl _ W5).alloc (Nat.le_refl _) _
          have HNB : Hid (Bk W6 (w4.heap.size + 1) 42 #[.int .u64 d1, .int .u64 d2]) := by
            have e := Bk.new W5 42 #[.int .u64 d1, .int .u64 d2]
            rw [e5, hW6] at e; exact e
          have hb6 : Below w4.heap.size w4 W6 := hb5.trans (hb56.mono hb5.size)
          have HR6 := Lib.hid (HR4.out.upon hb6)
          have HS6 := Lib.hid (HS4.out.below hb6 HS4.out.lt)
          have HB6 : Hid (Below w.heap.size w W6) := HB4.out.trans (hb6.mono HB4.out.size)
          have HOB6 := Lib.hid (HOB5.out.below hb56 HOB5.out.lt)
          have HOM6 := Lib.hid (hom.below hb6 (Nat.le_refl _))
          have z46 : w4.heap.size + 1 < W6.heap.size := HNB.out.lt
          have hrow : ∀ g, bkO A1 = some g → g < w3.heap.size := HLT.out
          have HNOW : Hid (∀ g, bkO A1 = some g → (0 < s.en → ∀ g', bkO s.eA = some g' → some g ≠ some g') ∧ (0 < s.pn → ∀ g', bkO s.pA = some g' → some g ≠ some g') ∧ g ≠ w4.heap.size) := fun g hgb => by
            have h3 := hrow g hgb
            refine ⟨fun h0 g' hg' e => ?_, fun h0 g' hg' e => ?_, by omega⟩
            · cases e
              cases hA : s.eA with
              | none => rw [hA] at hg'; cases hg'
              | some a => rw [hA] at hg'; have := (hno a h0 hA).1; have e2 : a.block = g := Option.some.inj hg'; omega
            · cases e
              cases hA : s.pA with
              | none => rw [hA] at hg'; cases hg'
              | some a => rw [hA] at hg'; have := (hnp a h0 hA).1; have e2 : a.block = g := Option.some.inj hg'; omega
          obtain ⟨r0, r1, _, _⟩ := HK5.out.two
          rw [← hW5] at r0 r1
          have HWa := Lib.hid hW5; have HWb := Lib.hid hW6
          have HENL : Hid (s.en ≤ 200 ∧ s.pn ≤ 8) := ⟨by rw [← hom.elen]; exact ok_ents_few hok, by rw [← hom.plen]; exact (ok_parsOk hok).1⟩
          clear hW5 hW6 hb5 hb6 hb56 e5 hrow hno hnp hom hg hok
          unfold obV
          unfold obC at HWa HOB5 HOB6 r0 r1 ⊢
          go_wp2_with (at_builtin; refine halt_app9 (.tmp 51) (.tmp 53) 24 rfl ?_)
          rw [HWa.out, HWb.out]
          refine unhalt ?_
          refine wpList_append_dj (base := w.heap.size) (size := 2) rfl (.tmp 51) (.tmp 53) 24 rfl 42 i0 _ 16 Tryz.underlying24 Hi.out Hz0.out Hz1.out Hz2.out rfl (by decide) A1 n1 c1 (flat dgC rl) rfl HR6.out.rot.a _ _ 1 1 (flat dgC [(d1, d2)]) rfl (Sl.of_bk (n := 1) (size := 2) HNB.out rfl) (dgC_one _) (by omega) (by unfold maxLen; omega) (by omega) HB6.out.size ?_
          intro A6 c6 w7 ho6 hg6 _ _ hd6
          rw [← flat_append] at ho6
          have HR7 := Lib.hid (HR6.out.rot.app ho6 hg6 hd6)
          have HS7 := Lib.hid (HS6.out.kept hg6 fun e => bk_map HR6.out.rot.a HS6.out _ e.symm rfl)
          have HB7 : Hid (Below w.heap.size w w7) := HB6.out.grown hg6 HB6.out.size (fun g e => (HR6.out.rot.a.lt g (by rw [own_bkO]; exact e)).1)
          have z7 : W6.heap.size ≤ w7.heap.size := hg6.size
          have HOB7 : Hid (Bk w7 w4.heap.size 75 #[.int .i64 o.kind, .string o.data, .slice s.eA s.en s.ec, .int .u64 o.tree.1, .int .u64 o.tree.2, .slice s.pA s.pn s.pc, .string o.auth, .int .i64 o.time, .string o.msg]) := HOB6.out.grown hg6 (fun e => (HNOW.out _ e.symm).2.2 rfl)
          have HOM7 : Hid (ObM w7 w4.heap.size o s) := ⟨sl_apart HOM6.out.e hg6 (by omega) (fun h0 g hgb e => (HNOW.out g e).1 h0 g hgb rfl), sl_apart HOM6.out.p hg6 (by omega) (fun h0 g hgb e => (HNOW.out g e).2.1 h0 g hgb rfl), HOM6.out.ele, HOM6.out.emx, HOM6.out.ple, HOM6.out.pmx⟩
          clear ho6 hg6 hd6 r0 r1 HNB HR6 HS6 HB6 HOB6 HOM6 HK5 HNOW
          have HLK := Lib.hid (links_any o s w4.heap.size w7 HOM7.out (by omega) HOK.out (by have := HENL.out.1; omega) (by have := HENL.out.2; omega))
          unfold obV obC LkE at HLK
          obtain ⟨q0, q1, q2, q3, q4, q5, q6, q7, q8⟩ := HOB7.out.nine
          go_wp2_with fail
          refine HLK.out.mono ?_
          rintro e w8 ⟨A9, n9, c9, hn9, rfl, ha9, hb8⟩
          have HR8 := Lib.hid (HR7.out.upon hb8)
          have HS8 := Lib.hid (HS7.out.below hb8 HS7.out.lt)
          have HB8 : Hid (Below w.heap.size w w8) := HB7.out.trans (hb8.mono HB7.out.size)
          have HL9 := Lib.hid ha9.sl
          have HD9 : Hid (0 < n9 → ∀ g, bkO A9 = some g → bkO (some (⟨bb, off, none⟩ : Addr)) ≠ some g) := fun h0 g hgb e => by
            have h3 := (HR7.out.c.lt g (by rw [own_bkO]; exact e)).2
            rcases ha9 with h4 | ⟨h4, _⟩
            · have := (h4.lt g (by rw [own_bkO]; exact hgb)).1; omega
            · omega
          have HN9 := Lib.hid hn9
          have h209 : n9 ≤ 209 := by rw [hn9]; exact links_len HOK.out
          have hm3 : m ≤ 10000000 := by omega
          obtain ⟨wo, hwo⟩ : ∃ wo, wo = wr := ⟨_, rfl⟩
          subst hwo
          clear hn9 ha9 hb8 HLK q0 q1 q2 q3 q4 q5 q6 q7 q8 HOB7 HOM7 HR7 HS7 HB7 HR4 HS4 HB4 HK4 HOB5
          obtain ⟨A3', hA3⟩ : ∃ A, (some ⟨bb, off, none⟩ : Option Addr) = A := ⟨_, rfl⟩
          rw [hA3] at HR8 HD9
          rw [hA3]
          clear hA3
          go_wp2_with fail
          go_loopw [9, 58] (fun v9 i wi => ∃ (j n c : Nat) (A : Option Addr) (op' : List Dig), v9 = .slice A n c ∧ i = .int .i64 j ∧ j ≤ n9 ∧ n ≤ m + j ∧ Hid (op'.length = n) ∧ Hid (ReJ p rs (setB met (d1, d2)) (rl ++ [(d1, d2)]) rm op' (d1, d2) ((linksO o).take j)) ∧ Hid (Sd wi w.heap.size (N + 1) (setB met (d1, d2))) ∧ Hid (Rw3 wi w.heap.size 42 A6 (n1 + 1) c6 A2 n2 c2 A n c (rl ++ [(d1, d2)]) rm op') ∧ Hid (Below w.heap.size w wi) ∧ Hid (Sl wi w8.heap.size 2 A9 n9 (flat dgC (linksO o))) ∧ Hid (0 < n9 → ∀ g, bkO A9 = some g → bkO A ≠ some g) ∧ w8.heap.size ≤ wi.heap.size) (fun _ i _ => n9 - (intOf i).toNat)
          case atStart => exact ⟨0, m, c3, _, l, rfl, rfl, Nat.zero_le _, Nat.le_refl _, HLM.out, HJ0.out, HS8.out, HR8.out, HB8.out, HL9.out, HD9.out, Nat.le_refl _⟩
          case round =>
            obtain ⟨j, n, c, A, op', rfl, rfl, hj, hnj, hol, hJ, hS, hRw, hBw, hSl, hDj, hz8⟩ := hrel
            have HOL := Lib.hid hol.out; have HJ := Lib.hid hJ.out; have HSi := Lib.hid hS.out; have HRi := Lib.hid hRw.out; have HBi := Lib.hid hBw.out; have HLi := Lib.hid hSl.out; have HDi := Lib.hid hDj.out
            clear hol hJ hS hRw hBw hSl hDj HS8 HR8 HB8 HL9 HD9 HJ0
            have hmi : w.heap.size < wr.heap.size := HSi.out.lt
            by_cases hlt : j < n9
            · obtain ⟨b9, o9, x, rfl, hb9, hx, y0, y1⟩ := HLi.out.dg hlt
              have hlz : (j : Int) < (n9 : Int) := by omega
              have HTK := Lib.hid (take_snoc hx)
              have HRX : Hid (Rchd p rs x) := .link HRD.out HG4.out (List.mem_of_getElem? hx)
              have HXW : Hid (WfD x) := rchd_wf HPO.out HH.out HRX.out
              obtain ⟨x1, x2⟩ := x
              simp only at y0 y1
              obtain ⟨W, hW⟩ : ∃ W, wr.alloc (.cells #[.int .u64 x1, .int .u64 x2] 42) = W := ⟨_, rfl⟩
              have hbW : Below wr.heap.size wr W := by rw [← hW]; exact (Below.refl _ wr).alloc (Nat.le_refl _) _
              have eW : W.heap.size = wr.heap.size + 1 := by rw [← hW]; simp
              have HKW : Hid (Bk W wr.heap.size 42 #[.int .u64 x1, .int .u64 x2]) := by rw [← hW]; exact Bk.new wr _ _
              have HSW := Lib.hid (HSi.out.below hbW hmi)
              have HRW := Lib.hid (HRi.out.upon hbW)
              have HBW : Hid (Below w.heap.size w W) := HBi.out.trans (hbW.mono (by omega))
              have HLW := Lib.hid (HLi.out.below hbW hz8)
              have hlk := Sd.look (d := (x1, x2)) HSW.out Tryz.underlying62 (dgOk_of HXW.out)
              obtain ⟨r0, r1, _, _⟩ := HKW.out.two
              rw [← hW] at r0 r1 hlk
              simp only at hlk
              have hzW : w8.heap.size ≤ W.heap.size := by omega
              have HWa := Lib.hid hW
              cases hsm : setB met (d1, d2) (x1, x2) with
              | true =>
                rw [hsm] at hlk
                have HJN := Lib.hid (HJ.out.pass hsm)
                rw [← HTK.out] at HJN
                clear hW hbW eW hx hsm
                go_wp2_with fail
                rw [HWa.out]
                go_roundw
                case rel => exact ⟨j + 1, n, c, A, op', rfl, by go_num, hlt, by omega, HOL.out, HJN.out, HSW.out, HRW.out, HBW.out, HLW.out, HDi.out, hzW⟩
                case measure => simp [intOf]; omega
              | false =>
                rw [hsm] at hlk
                have HJN := Lib.hid (HJ.out.push HRX.out)
                rw [← HTK.out] at HJN
                have HNB : Hid (Bk (W.alloc (.cells #[.int .u64 x1, .int .u64 x2] 42)) (wr.heap.size + 1) 42 #[.int .u64 x1, .int .u64 x2]) := by
                  have e := Bk.new W 42 #[.int .u64 x1, .int .u64 x2]
                  rwa [eW] at e
                have hbx : Below W.heap.size W (W.alloc (.cells #[.int .u64 x1, .int .u64 x2] 42)) := (Below.refl _ W).alloc (Nat.le_refl _) _
                have HRX2 := Lib.hid (HRW.out.upon hbx)
                have HSX2 := Lib.hid (HSW.out.below hbx HSW.out.lt)
                have HBX2 : Hid (Below w.heap.size w (W.alloc (.cells #[.int .u64 x1, .int .u64 x2] 42))) := HBW.out.trans (hbx.mono HBW.out.size)
                have HLX2 := Lib.hid (HLW.out.below hbx hzW)
                have hzx : w8.heap.size ≤ (W.alloc (.cells #[.int .u64 x1, .int .u64 x2] 42)).heap.size := Nat.le_trans hzW hbx.size
                have HZX := Lib.hid hzx
                clear hW hbW eW hx hsm hbx hzx
                go_wp2_with (at_builtin; refine halt_app9 (.tmp 66) (.tmp 68) 24 rfl ?_)
                rw [HWa.out]
                refine unhalt ?_
                refine wpList_append_dj (base := w.heap.size) (size := 2) rfl (.tmp 66) (.tmp 68) 24 rfl 42 i0 _ 16 Tryz.underlying24 Hi.out Hz0.out Hz1.out Hz2.out rfl (by decide) A n c (flat dgC op') rfl HRX2.out.rot.rot.a _ _ 1 1 (flat dgC [(x1, x2)]) rfl (Sl.of_bk (n := 1) (size := 2) HNB.out rfl) (dgC_one _) (by omega) (by unfold maxLen; omega) (by omega) HBX2.out.size ?_
                intro A7 c7 w9 ho9 hg9 _ _ hd9
                rw [← flat_append] at ho9
                have HR9 := Lib.hid (HRX2.out.rot.rot.app ho9 hg9 hd9)
                have HS9 := Lib.hid (HSX2.out.kept hg9 fun e => bk_map HRX2.out.rot.rot.a HSX2.out _ e.symm rfl)
                have HB9 : Hid (Below w.heap.size w w9) := HBX2.out.grown hg9 HBX2.out.size (fun g e => (HRX2.out.rot.rot.a.lt g (by rw [own_bkO]; exact e)).1)
                have HL9 : Hid (Sl w9 w8.heap.size 2 (some ⟨b9, o9, none⟩) n9 (flat dgC (linksO o))) := sl_apart HLX2.out hg9 HZX.out (fun h0 g hgb => HDi.out h0 g hgb)
                have HD9 : Hid (0 < n9 → ∀ g, bkO (some (⟨b9, o9, none⟩ : Addr)) = some g → bkO A7 ≠ some g) := fun h0 g hgb e => by
                  rcases hd9 g e with h | h
                  · exact HDi.out h0 g hgb h
                  · have e2 : b9 = g := Option.some.inj hgb
                    have := HZX.out; omega
                have HZ9 : Hid (w8.heap.size ≤ w9.heap.size) := Nat.le_trans HZX.out hg9.size
                clear ho9 hg9 hd9 r0 r1
                go_wp2_with fail
                go_roundw
                case rel => exact ⟨j + 1, n + 1, c7, A7, op' ++ [(x1, x2)], rfl, by go_num, hlt, by omega, by show _ = _; rw [List.length_append, HOL.out]; rfl, HJN.out, HS9.out, HR9.out.rot, HB9.out, HL9.out, HD9.out, HZ9.out⟩
                case measure => simp [intOf]; omega
            · have hlz : ¬ (j : Int) < (n9 : Int) := by omega
              have HT : Hid ((linksO o).take j = linksO o) := List.take_of_length_le (by rw [← HN9.out]; omega)
              rw [HT.out] at HJ
              have HIN := Lib.hid (HJ.out.fin HG4.out)
              go_wp2_with fail
              go_roundg (gk - 1)
              case rel => exact ⟨_, N + 1, n1 + 1, n2, n, rl ++ [(d1, d2)], rm, op', A6, A2, A, c6, c2, c, rfl, rfl, rfl, HIN.out, HSi.out, HRi.out, HBi.out, ⟨by rw [List.length_append, HLN.out.1]; rfl, HLN.out.2.1, HOL.out⟩, by have := HU.out; have := HUM.out; show _ ≤ _; omega, by omega, by have := HU.out; omega⟩
              case measure => have := HU.out; omega
end Go.Proofs.YtlcecobipgmafaaGreatDoor

namespace Go.Proofs.YtlcecobipgmafaaGreatDoor
open Go.RowKit Go.Maps

set_option maxRecDepth 100000 in
set_option maxHeartbeats 32000000 in
theorem lawPw_any (p : List Itm) (pA : Option Addr) (pn pc : Nat) (hs : List Dig) (hA : Option Addr) (hn hc : Nat) (w : World)
    (h0 : Sl w w.heap.size 3 pA pn (flat itC p)) (h1 : Sl w w.heap.size 2 hA hn (flat dgC hs)) (hpn : pn ≤ maxLen) (hsz : ∀ i ∈ p, i.2.size ≤ maxLen) (hh : ∀ d ∈ hs, WfD d) :
    Calls Tryz.prog 6 #[.slice pA pn pc, .slice hA hn hc] w (LawE w) := by
  have HPL := Lib.hid (h0.len itC_len (by unfold maxLen at hpn; omega))
  have HH := Lib.hid hh
  obtain ⟨W1, hW1⟩ : ∃ W, w.alloc (.cells #[.slice hA hn hc] 24) = W := ⟨_, rfl⟩
  have HB1 : Hid (Below w.heap.size w W1) := by rw [← hW1]; exact (Below.refl _ w).alloc (Nat.le_refl _) _
  have hL1 : Bk W1 w.heap.size 24 #[.slice hA hn hc] := by rw [← hW1]; exact Bk.new w _ _
  have HP1 := Lib.hid (sl_on4 h0 HB1.out); have HH1 := Lib.hid (sl_on4 h1 HB1.out)
  have HS := Lib.hid (small_any pA pn pc p w.heap.size hA hn hc W1 HP1.out hL1 hpn hsz)
  unfold SmE at HS
  have HW1 := Lib.hid hW1
  unfold LawE
  clear hh h0 h1 hW1 hL1 hsz
  go_enter Tryz.func6, Tryz.ntmps6
  go_wp2_with fail
  rw [HW1.out]
  refine HS.out.mono ?_
  rintro e w2 ⟨r, rfl, hr, hb2⟩
  have HR := Lib.hid hr
  have HB2 : Hid (Below w.heap.size w w2) := HB1.out.trans (hb2.mono HB1.out.size)
  have HP2 := Lib.hid (sl_on4 HP1.out hb2); have HH2 := Lib.hid (sl_on4 HH1.out hb2)
  have HAW := Lib.hid (fun W => awake_any W)
  unfold LawE at HAW
  clear hr hb2 HS HB1 HP1 HH1 HW1
  cases r with
  | false =>
    go_wp2_with fail
    refine (HAW.out w2).mono ?_
    rintro e w3 ⟨rfl, hb3⟩
    have HB3 : Hid (Below w.heap.size w w3) := HB2.out.trans (hb3.mono HB2.out.size)
    clear hb3 HAW
    go_wp2_with fail
    go_ret
    exact ⟨rfl, HB3.out⟩
  | true =>
    obtain ⟨hn8, hp40, hpo⟩ := HR.out rfl
    have HPO := Lib.hid hpo
    clear hpo HR
    have HC := Lib.hid (clone_any p pA pn pc hs hA hn hc 0 ⟨#[]⟩ w2.heap.size w2 HP2.out HH2.out (Nat.le_refl _) HPO.out hp40 HH.out hn8)
    unfold scV at HC
    go_wp2_with fail
    refine HC.out.mono ?_
    rintro e w3 ⟨l, edge, z, A, c, A2, c2, rfl, hR, ⟨hS1, hS2⟩, hwf, ⟨hlc, hcm, hec, hcm2⟩, hll, hel, hb3⟩
    have HR := Lib.hid hR; have HS3 := Lib.hid hS1
    have HB3 : Hid (Below w.heap.size w w3) := HB2.out.trans (hb3.mono HB2.out.size)
    have HP3 := Lib.hid (sl_on4 HP2.out hb3); have HH3 := Lib.hid (sl_on4 HH2.out hb3)
    clear hR hS1 hS2 hwf hb3 HC HB2 HP2 HH2
    have HRE := Lib.hid (preach_any p pA pn pc hs hA hn hc w3.heap.size w3 HP3.out HH3.out (Nat.le_refl _) HPO.out hp40 HH.out hn8)
    go_wp2_with fail
    refine HRE.out.mono ?_
    rintro e w4 ⟨rl, rm, B1, b1, B2, b2, rfl, hRR, hrs, hrl, hrw, hb4⟩
    have HRR := Lib.hid hRR; have HRS := Lib.hid hrs; have HRW := Lib.hid hrw
    have HB4 : Hid (Below w.heap.size w w4) := HB3.out.trans (hb4.mono HB3.out.size)
    have HP4 := Lib.hid (sl_on4 HP3.out hb4); have HS4 := Lib.hid (sl_on4 HS3.out hb4)
    clear hRR hrs hrw hb4 HRE HB3 HP3 HH3 HS3
    by_cases hz : z = 0
    case neg =>
      have hzz : (z != 0) = true := by rw [bne_iff_ne]; exact hz
      clear hz
      go_wp2_with fail
      refine (HAW.out w4).mono ?_
      rintro e w5 ⟨rfl, hb5⟩
      have HB5 : Hid (Below w.heap.size w w5) := HB4.out.trans (hb5.mono HB4.out.size)
      clear hb5 HAW
      go_wp2_with fail
      go_ret
      exact ⟨rfl, HB5.out⟩
    case pos =>
      subst hz
      have HN := Lib.hid (HR.out.get (by decide) (by decide) (by decide))
      obtain ⟨e1, e2, e3⟩ := NdOk.reach HPO.out HN.out HRR.out
      have hq40 : (keepP p l).length ≤ 40 := Nat.le_trans (List.length_filter_le _ _) (by rw [HPL.out]; exact hp40)
      have f1 : rm.length = 0 := by rw [e1]; rfl
      have f2 : edge.length = 0 := by rw [e2]; rfl
      have HE3 := Lib.hid e3
      have HKP := Lib.hid (pkeep_any pA pn pc w4.heap.size B1 rl.length b1 p rl w4 HP4.out HRS.out (Nat.le_refl _) (by omega) (by omega) HRW.out (itm_wf HPO.out))
      rw [f1, f2]
      clear e1 e2 e3
      go_wp2_with fail
      refine HKP.out.mono ?_
      rintro e w5 ⟨A5, c5, rfl, hs5, _, _, hb5⟩
      have HB5 : Hid (Below w.heap.size w w5) := HB4.out.trans (hb5.mono HB4.out.size)
      have HSM := Lib.hid (same8_any A A5 (keepP p l).length c (keepP p rl).length c5 w5.heap.size (keepP p l) (keepP p rl) w5 (sl_on4 HS4.out hb5) hs5 (by unfold maxLen; omega))
      rw [decide_eq_true HE3.out] at HSM
      clear hs5 hb5 HKP
      go_wp2_with fail
      refine HSM.out.mono ?_
      rintro e w6 ⟨rfl, k6, rfl⟩
      have HB6 : Hid (Below w.heap.size w (w5.drewN k6)) := below_drewN HB5.out k6
      clear HSM
      go_wp2_with fail
      refine (HAW.out _).mono ?_
      rintro e w7 ⟨rfl, hb7⟩
      have HB7 : Hid (Below w.heap.size w w7) := HB6.out.trans (hb7.mono HB6.out.size)
      clear hb7 HAW
      go_wp2_with fail
      go_ret
      exact ⟨rfl, HB7.out⟩
end Go.Proofs.YtlcecobipgmafaaGreatDoor

namespace Go.Proofs.YtlcecobipgmafaaGreatDoor
open Go.ChangeShapes Go.WideShapes Go.ChangeAt Go.RowKit Go.Joins Go.Deep

theorem cellsU64 : Tryz.prog.cellsOf 40 = 1 := by kernel_rfl
theorem cellsDg : Tryz.prog.cellsOf 42 = 2 := by kernel_rfl
theorem cellsIt : Tryz.prog.cellsOf 44 = 3 := by kernel_rfl
section
variable {H : Type} {enc : TypeId × Value → H} {P : Program} {w : World} {base : Nat} {spare : Nat → Bool} {held : Bool} {fuel : Nat} {cs : List Value} {x : DataW H × List MemPlace}
theorem trod_dgP {t s : TypeId} (ht : P.underlying t = some (.array 2 s)) (hs : P.underlying s = some (.int .u64))
    (hC : P.cellsOf t = 2) (hcs : P.cellsOf s = 1) (h : DataW.trod enc P w base spare held fuel t cs = some x) : ∃ d : Dig, cs = dgC d ∧ WfD d := by
  obtain ⟨xs, m, _, _, hlen, hxl, hf⟩ := DataW.trod_array ht h
  rw [hC] at hlen
  obtain ⟨c0, c1, rfl⟩ := len2 hlen
  obtain ⟨y0, y1, rfl⟩ := len2 hxl
  have h0 := hf 0 (by omega)
  have h1 := hf 1 (by omega)
  rw [hcs] at h0 h1
  simp at h0 h1
  obtain ⟨a, ha, _, hz⟩ := DataW.trod_int hs h0
  obtain ⟨b, hb, _, hz2⟩ := DataW.trod_int hs h1
  simp at ha hb
  obtain ⟨w1, w2⟩ := bounds_u64 hz
  obtain ⟨w3, w4⟩ := bounds_u64 hz2
  exact ⟨(a, b), by rw [ha, hb]; rfl, ⟨w1, by omega, w3, by omega⟩⟩
theorem trod_itP {t e s u : TypeId} {f0 f1 : Field} (ht : P.underlying t = some (.struct #[f0, f1])) (o0 : f0.offset = 0) (o1 : f1.offset = 2) (t0 : f0.type = e) (t1 : f1.type = s)
    (he : P.underlying e = some (.array 2 u)) (hu : P.underlying u = some (.int .u64)) (hs : P.underlying s = some .string)
    (hC : P.cellsOf t = 3) (hce : P.cellsOf e = 2) (hcu : P.cellsOf u = 1) (hcs : P.cellsOf s = 1) (h : DataW.trod enc P w base spare held fuel t cs = some x) : ∃ i : Itm, cs = itC i ∧ WfD i.1 ∧ i.2.size ≤ maxLen := by
  obtain ⟨xs, m, _, _, hlen, hxl, hf⟩ := DataW.trod_struct ht h
  rw [hC] at hlen
  obtain ⟨c0, c1, c2, rfl⟩ := len3 hlen
  obtain ⟨y0, y1, rfl⟩ := len2 hxl
  have h0 := hf 0 f0 rfl
  have h1 := hf 1 f1 rfl
  rw [o0, t0, hce] at h0
  rw [o1, t1, hcs] at h1
  simp at h0 h1
  obtain ⟨d, hd, hw⟩ := trod_dgP he hu hce hcu h0
  obtain ⟨b, hb, _, hz⟩ := DataW.trod_string hs h1
  simp [dgC] at hd hb
  exact ⟨(d, b), by rw [hd.1, hd.2, hb]; rfl, hw, hz⟩
end
section
variable {H : Type} {enc : TypeId × Value → H} {W : World} {base : Nat} {v : Value} {d : DataW H} {p : List MemPlace} {r : Reach} {b0 : Nat} {sp : Nat → Bool} {held : Bool}
set_option maxRecDepth 100000 in
theorem open_pool (hv : Value.okWide Tryz.prog W r b0 23 v) (h : DataW.Trod enc Tryz.prog W base sp held 23 v d p) : ∃ A n c is, v = .slice A n c ∧ Sl W W.heap.size 3 A n (flat itC is) ∧ n ≤ c ∧ c ≤ maxLen ∧ ∀ i ∈ is, WfD i.1 ∧ i.2.size ≤ maxLen := by
  obtain ⟨A, n, c, rfl⟩ := okWide_slice Tryz.underlying23 hv
  obtain ⟨fuel, hf⟩ := h
  obtain ⟨A', n', c', us, he, h1, h2, h3, h4⟩ := trod_slP (encA := itC) (Q := fun i => WfD i.1 ∧ i.2.size ≤ maxLen) Tryz.underlying23 cellsIt (by omega) itC_len (fun _ _ _ hh => trod_itP Tryz.underlying44 rfl rfl rfl rfl Tryz.underlying42 Tryz.underlying40 Tryz.underlying9 cellsIt cellsDg cellsU64 cellsStr hh) hf
  refine ⟨A', n', c', us, ?_, h1, h2, h3, h4⟩
  have : [Value.slice A n c] = [Value.slice A' n' c'] := he
  simpa using this
end
end Go.Proofs.YtlcecobipgmafaaGreatDoor

namespace Go.Proofs.YtlcecobipgmafaaGreatDoor
open Go.ChangeShapes Go.WideShapes Go.ChangeAt Go.RowKit Go.Joins Go.Deep

section
variable {H : Type} {enc : TypeId × Value → H} {P : Program} {w : World} {base : Nat} {spare : Nat → Bool} {held : Bool} {fuel : Nat} {cs : List Value} {x : DataW H × List MemPlace}
end
section
variable {H : Type} {enc : TypeId × Value → H} {W : World} {base : Nat} {v : Value} {d : DataW H} {p : List MemPlace} {r : Reach} {b0 : Nat} {sp : Nat → Bool} {held : Bool}
set_option maxRecDepth 100000 in
theorem open_digs (hv : Value.okWide Tryz.prog W r b0 24 v) (h : DataW.Trod enc Tryz.prog W base sp held 24 v d p) : ∃ A n c ds, v = .slice A n c ∧ Sl W W.heap.size 2 A n (flat dgC ds) ∧ n ≤ c ∧ c ≤ maxLen ∧ ∀ d ∈ ds, WfD d := by
  obtain ⟨A, n, c, rfl⟩ := okWide_slice Tryz.underlying24 hv
  obtain ⟨fuel, hf⟩ := h
  obtain ⟨A', n', c', us, he, h1, h2, h3, h4⟩ := trod_slP (encA := dgC) (Q := fun d => WfD d) Tryz.underlying24 cellsDg (by omega) dgC_len (fun _ _ _ hh => trod_dgP Tryz.underlying42 Tryz.underlying40 cellsDg cellsU64 hh) hf
  refine ⟨A', n', c', us, ?_, h1, h2, h3, h4⟩
  have : [Value.slice A n c] = [Value.slice A' n' c'] := he
  simpa using this
end
end Go.Proofs.YtlcecobipgmafaaGreatDoor
