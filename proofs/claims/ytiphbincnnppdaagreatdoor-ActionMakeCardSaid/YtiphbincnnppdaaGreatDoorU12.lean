/-
  Lemmas: What action.Make makes, in plain Lean: the first file with each name, as long as all are there and not too long. action.Make. The reference's Find and Has. The reference's insert and with: an ascending list with one more string. The reference's reach. The reference's steps.
-/
import Derived.Test.YtiphbincnnppdaaGreatDoorU11

namespace Go.Proofs.YtiphbincnnppdaaGreatDoor
open Go.RowKit Go.Maps

/-- the data of the first file with a path -/
def lookF : List Fl → ByteArray → Option ByteArray
  | [], _ => none
  | f :: fs, s => if f.1 = s then some f.2 else lookF fs s
theorem lookF_snoc : ∀ (fs : List Fl) (f : Fl) (s : ByteArray), lookF (fs ++ [f]) s = match lookF fs s with | some d => some d | none => if f.1 = s then some f.2 else none
  | [], f, s => by simp [lookF]
  | r :: fs, f, s => by
    simp only [List.cons_append, lookF]
    by_cases e : r.1 = s
    · simp [e]
    · rw [if_neg e, if_neg e, lookF_snoc fs f s]
theorem lookF_mem : ∀ {fs : List Fl} {s d : ByteArray}, lookF fs s = some d → (s, d) ∈ fs
  | [], _, _, h => by cases h
  | r :: fs, s, d, h => by
    simp only [lookF] at h
    by_cases e : r.1 = s
    · rw [if_pos e] at h; cases h; rw [← e]; simp
    · rw [if_neg e] at h; exact List.mem_cons_of_mem _ (lookF_mem h)
/-- what the map of data holds -/
def filG (fs : List Fl) : ByteArray → Option Value := fun s => (lookF fs s).map Value.string
theorem filG_nil : filG [] = fun _ => none := rfl
theorem filG_some (fs : List Fl) (s : ByteArray) : (filG fs s).isSome = (lookF fs s).isSome := by unfold filG; simp
theorem filG_skip {fs : List Fl} {f : Fl} (h : (lookF fs f.1).isSome = true) : filG (fs ++ [f]) = filG fs := by
  funext s
  show (lookF (fs ++ [f]) s).map Value.string = (lookF fs s).map Value.string
  rw [lookF_snoc]
  cases hs : lookF fs s with
  | some d => rfl
  | none =>
    have : ¬ f.1 = s := fun e => by rw [e, hs] at h; cases h
    simp [this]
theorem filG_put {fs : List Fl} {f : Fl} (h : (lookF fs f.1).isSome = false) : filG (fs ++ [f]) = upd (filG fs) f.1 (.string f.2) := by
  have hn : lookF fs f.1 = none := by
    cases hs : lookF fs f.1 with
    | some d => rw [hs] at h; cases h
    | none => rfl
  funext s
  show (lookF (fs ++ [f]) s).map Value.string = if s = f.1 then some (.string f.2) else (lookF fs s).map Value.string
  rw [lookF_snoc]
  by_cases e : s = f.1
  · subst e; rw [hn]; simp
  · rw [if_neg e]
    cases hs : lookF fs s with
    | some d => rfl
    | none => simp [Ne.symm e]
/-- the files of the names, and the error -/
def mkG (fs acc : List Fl) : List ByteArray → List Fl × Int
  | [] => (acc, 0)
  | s :: r => match lookF fs s with
    | none => ([], 8)
    | some d => if 65536 < d.size then ([], 4) else mkG fs (acc ++ [(s, d)]) r
theorem mkG_none {fs acc : List Fl} {s : ByteArray} {r : List ByteArray} (h : lookF fs s = none) : mkG fs acc (s :: r) = ([], 8) := by simp [mkG, h]
theorem mkG_long {fs acc : List Fl} {s d : ByteArray} {r : List ByteArray} (h : lookF fs s = some d) (hd : 65536 < d.size) : mkG fs acc (s :: r) = ([], 4) := by simp [mkG, h, hd]
theorem mkG_next {fs acc : List Fl} {s d : ByteArray} {r : List ByteArray} (h : lookF fs s = some d) (hd : ¬ 65536 < d.size) : mkG fs acc (s :: r) = mkG fs (acc ++ [(s, d)]) r := by simp [mkG, h, hd]
theorem drop_at {l : List ByteArray} {k : Nat} {x : ByteArray} (h : l[k]? = some x) : l.drop k = x :: l.drop (k + 1) := by
  rw [List.drop_eq_getElem_cons (List.getElem?_eq_some_iff.1 h).1, (List.getElem?_eq_some_iff.1 h).2]
/-- What Make answers: the files, in the order of the names, and the error. -/
def MkR (ts : List Tg) (lab : ByteArray) (kd : Int) (fs out : List Fl) (err : Int) : Prop :=
  ∃ l e, InpR ts lab kd l e ∧ ((e ≠ 0 ∧ out = [] ∧ err = e) ∨ (e = 0 ∧ mkG fs [] l = (out, err)))
theorem MkR.same {ts : List Tg} {lab : ByteArray} {kd : Int} {fs out out2 : List Fl} {err err2 : Int} (h : MkR ts lab kd fs out err) (g : MkR ts lab kd fs out2 err2) : out = out2 ∧ err = err2 := by
  obtain ⟨l, e, h1, h2⟩ := h
  obtain ⟨m, f, g1, g2⟩ := g
  obtain ⟨rfl, rfl⟩ := h1.same g1
  rcases h2 with ⟨a1, rfl, rfl⟩ | ⟨a1, a2⟩
  · rcases g2 with ⟨_, rfl, rfl⟩ | ⟨b1, _⟩
    · exact ⟨rfl, rfl⟩
    · exact absurd b1 a1
  · rcases g2 with ⟨b1, _⟩ | ⟨_, b2⟩
    · exact absurd a1 b1
    · rw [a2] at b2
      exact ⟨(Prod.mk.inj b2).1, (Prod.mk.inj b2).2⟩
/-- an input: the name and the digest of the data -/
def ipF (f : Fl) : Ipt := (f.1, ofB (toL f.2))
/-- What Make hands back, in memory. -/
def RdyIn (w : World) (kd : Int) (lab : ByteArray) (out : List Fl) (err : Int) (k : Int) (l : ByteArray) (A1 : Option Addr) (n1 : Nat) (A2 : Option Addr) (n2 : Nat) : Prop :=
  k = (if err = 0 then kd else 0) ∧ l = (if err = 0 then lab else ⟨#[]⟩) ∧ Sl w w.heap.size 3 A1 n1 (flat ipC (out.map ipF)) ∧ Sl w w.heap.size 2 A2 n2 (flat flC out)
def MkEnd (ts : List Tg) (lab : ByteArray) (kd : Int) (fs : List Fl) (w : World) (e : Ending) (w' : World) : Prop :=
  ∃ k l A1 n1 c1 A2 n2 c2 out err, e = .returned (.tuple #[.agg #[.int .i64 k, .string l, .slice A1 n1 c1, .slice A2 n2 c2], .int .i64 err]) ∧ RdyIn w' kd lab out err k l A1 n1 A2 n2 ∧ n1 ≤ c1 ∧ c1 ≤ maxLen ∧ n2 ≤ c2 ∧ c2 ≤ maxLen ∧ MkR ts lab kd fs out err ∧ Below w.heap.size w w'
theorem MkEnd.none_ {ts : List Tg} {lab : ByteArray} {kd : Int} {fs : List Fl} {w w' : World} {err : Int} (h : MkR ts lab kd fs [] err) (he : err ≠ 0) (hb : Below w.heap.size w w') :
    MkEnd ts lab kd fs w (.returned (.tuple #[.agg #[.int .i64 0, .string ⟨#[]⟩, .slice none 0 0, .slice none 0 0], .int .i64 err])) w' :=
  ⟨0, ⟨#[]⟩, none, 0, 0, none, 0, 0, [], err, rfl, ⟨(if_neg he).symm, (if_neg he).symm, Sl.nil _ _ _ _, Sl.nil _ _ _ _⟩, Nat.le_refl _, Nat.zero_le _, Nat.le_refl _, Nat.zero_le _, h, hb⟩
end Go.Proofs.YtiphbincnnppdaaGreatDoor

namespace Go.Proofs.YtiphbincnnppdaaGreatDoor
open Go.RowKit Go.Maps

theorem res_cellMk {fn : Func} {c i : Tmp} (h : fn.results = #[.cell c 33, .tmp i]) {w : World} {a : Array Value} {b : Nat} {k l x y v : Value} (ha : a[c]?.getD undef = .pointer (some ⟨b, 0, none⟩)) (hk : Bk w b 33 #[k, l, x, y]) (hv : a[i]?.getD undef = v) :
    (results fn a).run Tryz.prog w = .ok (.tuple #[.agg #[k, l, x, y], v]) w := by
  have h0 := hk.cell 0; have h1 := hk.cell 1; have h2 := hk.cell 2; have h3 := hk.cell 3
  simp at h0 h1 h2 h3
  simp [results, h, ha, hv, go_sem, h0, h1, h2, h3]
theorem Bk.set4 {w : World} {b : Nat} {t : TypeId} {x y z u : Value} (h : Bk w b t #[x, y, z, u]) (x' y' z' u' : Value) : Bk ((((w.setCell ⟨b, 0, none⟩ x').setCell ⟨b, 1, none⟩ y').setCell ⟨b, 2, none⟩ z').setCell ⟨b, 3, none⟩ u') b t #[x', y', z', u'] := by
  have := (((h.set 0 x').set 1 y').set 2 z').set 3 u'
  simpa using this
theorem below_set4 {B b : Nat} {w w' : World} (h : Below B w w') (hb : B ≤ b) (x y z u : Value) : Below B w ((((w'.setCell ⟨b, 0, none⟩ x).setCell ⟨b, 1, none⟩ y).setCell ⟨b, 2, none⟩ z).setCell ⟨b, 3, none⟩ u) :=
  (((h.setCell (p := ⟨b, 0, none⟩) hb x).setCell (p := ⟨b, 1, none⟩) hb y).setCell (p := ⟨b, 2, none⟩) hb z).setCell (p := ⟨b, 3, none⟩) hb u
theorem set_size' (w : World) (a : Addr) (u : Value) : (w.setCell a u).heap.size = w.heap.size := by simp [World.setCell]
theorem Sl.set4 {w : World} {B size n : Nat} {A : Option Addr} {xs : List Value} {b : Nat} (h : Sl w B size A n xs) (x y z u : Value) (hk : ∀ q, A = some q → q.block ≠ b) : Sl ((((w.setCell ⟨b, 0, none⟩ x).setCell ⟨b, 1, none⟩ y).setCell ⟨b, 2, none⟩ z).setCell ⟨b, 3, none⟩ u) B size A n xs := by
  refine ⟨h.1, fun hn => ?_⟩
  obtain ⟨b', off, rfl, hb', hc⟩ := h.2 hn
  have hne : b' ≠ b := hk _ rfl
  refine ⟨b', off, rfl, hb', fun j v hv => ?_⟩
  rw [← hc j v hv]
  exact World.cell?_of_block ((((Below.heap_setCell _ _ _ b' hne).trans (Below.heap_setCell _ _ _ b' hne)).trans (Below.heap_setCell _ _ _ b' hne)).trans (Below.heap_setCell _ _ _ b' hne))
theorem infoIpt : (Tryz.prog.info? 69).map (fun i => (i.zero, i.size, i.bytes)) = some (some (.agg #[.string ⟨#[]⟩, .int .u64 0, .int .u64 0]), 3, 32) := by kernel_rfl
theorem infoFil : (Tryz.prog.info? 62).map (fun i => (i.zero, i.size, i.bytes)) = some (some (.agg #[.string ⟨#[]⟩, .string ⟨#[]⟩]), 2, 32) := by kernel_rfl
theorem oneCells_ip (s : ByteArray) (q : Dig) : ∀ u ∈ flat ipC [(s, q)], u.oneCell' = true := by
  intro u hu
  simp [flat, ipC] at hu
  rcases hu with rfl | rfl | rfl <;> rfl
theorem oneCells_fi (s d : ByteArray) : ∀ u ∈ flat flC [(s, d)], u.oneCell' = true := by
  intro u hu
  simp [flat, flC] at hu
  rcases hu with rfl | rfl <;> rfl

section
variable {P : Program} {w : World}
theorem step_append_apdO {ops : Array Oper} {o : Oper} {a : Act} {K : Act → World → Prop} {Q : Exit → Act → World → Prop} {E : Prop} (hgd : o.guard = none) (s x : Operand) (t : TypeId)
    (ho : o.op = .call { callee := .builtin .append, args := #[s, x], argTypes := #[t, t] })
    (base : Nat) (e : TypeId) (i : TypeInfo) (z : Value) (size bytes : Nat) (ht : P.underlying t = some (.slice e)) (hi : P.info? e = some i) (hz : i.zero = some z)
    (hsize : i.size = size) (hby : i.bytes = bytes) (hzs : z.cells.size = size) (hsz : 0 < size)
    (A : Option Addr) (n c : Nat) (xs : List Value) (hs : a.eval s = .slice A n c) (hown : Apd w base e size A n c xs)
    (B : Nat) (A' : Option Addr) (m c' : Nat) (ys : List Value) (hx : a.eval x = .slice A' m c') (hsl : Sl w B size A' m ys) (h1 : ∀ u ∈ ys, u.oneCell' = true)
    (h63 : n + m ≤ maxLen) (hbytes : (n + m) * bytes ≤ 140737488355328) (hbase : base ≤ w.heap.size)
    (h : ∀ A2 c2 w', Apd w' base e size A2 (n + m) c2 (xs ++ ys) → Below base w w' → n + m ≤ c2 → c2 ≤ maxLen → OthersKept e w w' → K (a.put o.dst (.slice A2 (n + m) c2)) w') :
    if Region.wanted o (yielded ops a.tmps) = true then Oper.wp P o a w K Q else E := by
  have hw : Region.wanted o (yielded ops a.tmps) = true := by simp [Region.wanted, hgd]
  rw [if_pos hw]
  obtain ⟨A2, c2, w', hr, ho', hg, hc1, hc2, hok⟩ := run_append_apd (P := P) t o.type i z bytes ht hi hz hsize hby hzs hsz hown (c' := c') hsl h1 h63 hbytes hbase
  unfold Oper.wp
  simp [execOp, ho, resolve, invoke, builtin, hs, hx, hr, Result.andThen]
  exact h A2 c2 w' ho' hg hc1 hc2 hok
end
theorem Apd.others {w w' : World} {base size n c : Nat} {e e2 : TypeId} {A : Option Addr} {xs : List Value} (h : Apd w base e size A n c xs) (hk : OthersKept e2 w w') (hne : e ≠ e2) : Apd w' base e size A n c xs := by
  rcases h with h | h
  · exact .inl (hk _ _ _ _ _ _ hne h)
  · exact .inr h
theorem inp_small {ts : List Tg} {lab : ByteArray} {kd : Int} {l : List ByteArray} (h : InpR ts lab kd l 0) : l.length ≤ 101 ∧ ∀ x ∈ l, x.size ≤ 98 := by
  rcases h with ⟨_, _, h⟩ | ⟨_, _, _, h⟩ | ⟨hv, t, hf, h⟩
  · cases h
  · cases h
  · rcases h with ⟨_, _, h⟩ | ⟨_, _, has, hme⟩
    · cases h
    · have hto := hv.all t (findT_lab hf).2
      have h90 : lab.size ≤ 90 := vld_size hv (by unfold isT; rw [hf]; rfl)
      have hsz : ∀ (p r : ByteArray), (p ++ r).size = p.size + r.size := fun p r => by simp
      have s1 : sourceW.size = 7 := rfl
      have s2 : ifaceW.size = 6 := rfl
      have s3 : codeW.size = 5 := rfl
      have s4 : programW.size = 8 := rfl
      constructor
      · have hu : ∀ u : List ByteArray, (∀ x, InpMem ts t lab kd x → x ∈ u) → l.length ≤ u.length := fun u hu => nodup_len l u has.nodup (fun x hx => hu x ((hme x).1 hx))
        by_cases k1 : kd = 1
        · have h1 := hu ((sourceW ++ lab) :: t.deps.map (ifaceW ++ ·)) (fun x hx => by
            rcases hx with ⟨_, h | ⟨d, hd, h⟩⟩ | ⟨h, _⟩ | ⟨h, _⟩
            · rw [h]; simp
            · rw [h]; exact List.mem_cons_of_mem _ (List.mem_map_of_mem (f := (ifaceW ++ ·)) hd)
            · omega
            · omega)
          have h2 := hto.few
          simp at h1; omega
        · by_cases k2 : kd = 2
          · have h1 := hu ((codeW ++ lab) :: (ts.map Tg.lab).map (codeW ++ ·)) (fun x hx => by
              rcases hx with ⟨h, _⟩ | ⟨_, h | ⟨d, hd, h⟩⟩ | ⟨h, _⟩
              · omega
              · rw [h]; simp
              · rw [h]; exact List.mem_cons_of_mem _ (List.mem_map_of_mem (f := (codeW ++ ·)) ((isT_iff ts d).1 (rch_isT hd)))
              · omega)
            have h2 := hv.few
            simp at h1; omega
          · have h1 := hu [programW ++ lab] (fun x hx => by
              rcases hx with ⟨h, _⟩ | ⟨h, _⟩ | ⟨_, h⟩
              · omega
              · omega
              · rw [h]; simp)
            simp at h1; omega
      · intro x hx
        rcases (hme x).1 hx with ⟨_, h | ⟨d, hd, h⟩⟩ | ⟨_, h | ⟨d, hd, h⟩⟩ | ⟨_, h⟩
        · rw [h, hsz]; omega
        · have := vld_size hv (kindOf_isT (hto.dep d hd))
          rw [h, hsz]; omega
        · rw [h, hsz]; omega
        · have := vld_size hv (rch_isT hd)
          rw [h, hsz]; omega
        · rw [h, hsz]; omega

set_option maxRecDepth 100000 in
set_option maxHeartbeats 16000000 in
theorem make_any (A : Option Addr) (n c B : Nat) (ts : List Tg) (lab : ByteArray) (kd : Int) (fA : Option Addr) (fn fc : Nat) (fs : List Fl) (w : World) (h0 : Sl w B 4 A n (flat tgC ts)) (hok : ∀ t ∈ ts, TgOk w B t) (hB : B ≤ w.heap.size) (hnc : n ≤ c) (hcm : c ≤ maxLen) (hls : lab.size ≤ maxLen)
    (hf : Sl w B 2 fA fn (flat flC fs)) (hfn : fn ≤ 1000) (hfs : ∀ f ∈ fs, f.1.size ≤ maxLen ∧ f.2.size ≤ maxLen) :
    Calls Tryz.prog 10 #[.agg #[.slice A n c], .string lab, .int .i64 kd, .slice fA fn fc] w (MkEnd ts lab kd fs w) := by
  have HFL := Lib.hid (hf.len flC_len (by omega))
  have H0 := Lib.hid h0; have HOK := Lib.hid hok; have HF := Lib.hid hf; have HFS := Lib.hid hfs
  clear h0 hok hf hfs
  have hmm := @run_makeMap Tryz.prog
  obtain ⟨W0, hW0⟩ : ∃ W0, (w.alloc (.cells #[.slice A n c] 24)).alloc (.cells #[.int .i64 0, .string ⟨#[]⟩, .slice none 0 0, .slice none 0 0] 33) = W0 := ⟨_, rfl⟩
  have HB0 : Hid (Below w.heap.size w W0) := by rw [← hW0]; exact ((Below.refl _ w).alloc (Nat.le_refl _) _).alloc (by simp) _
  have zW0 : W0.heap.size = w.heap.size + 2 := by rw [← hW0]; simp
  have HG : Hid (Bk W0 w.heap.size 24 #[.slice A n c]) := by rw [← hW0]; exact (Bk.new w _ _).alloc _
  have HT : Hid (Bk W0 (w.heap.size + 1) 33 #[.int .i64 0, .string ⟨#[]⟩, .slice none 0 0, .slice none 0 0]) := by
    rw [← hW0]
    have := Bk.new (w.alloc (.cells #[.slice A n c] 24)) 33 #[.int .i64 0, .string ⟨#[]⟩, .slice none 0 0, .slice none 0 0]
    rw [World.size_alloc] at this
    exact this
  have g0 := HG.out.cell 0
  simp at g0
  have HIN := Lib.hid (inputs_any A n c B ts lab kd W0 (H0.out.below HB0.out hB) (fun t ht => (HOK.out t ht).below HB0.out hB) (by omega) hnc hcm hls)
  go_enter Tryz.func10, Tryz.ntmps10
  go_wp2_with fail
  refine HIN.out.mono ?_
  rintro e w1 ⟨nA, nn, nc, l, er, rfl, hs1, hn1, hc1, hb1, hr1⟩
  have HB1 : Hid (Below w.heap.size w w1) := HB0.out.trans (hb1.mono (by omega))
  have hz1 := hb1.size
  have HT1 := Lib.hid (HT.out.below hb1 (by omega))
  have HS1 := Lib.hid hs1; have HR1 := Lib.hid hr1
  have HNL : Hid (l.length = nn) := by have := hs1.1; rw [strs_len] at this; show _ = _; omega
  have hnn : nn ≤ 9223372036854775807 := by unfold maxLen at hc1; omega
  clear hs1 hr1 hb1 g0 HIN hW0 HG HT HB0
  by_cases her : er = 0
  case neg =>
    have p1 : (er != 0) = true := by rw [bne_iff_ne]; exact her
    have HM : Hid (MkR ts lab kd fs [] er) := ⟨l, er, HR1.out, .inl ⟨her, rfl, rfl⟩⟩
    have HER := Lib.hid her
    have f0 := HT1.out.free 0; have f1 := HT1.out.free 1; have f2 := HT1.out.free 2; have f3 := HT1.out.free 3
    have c0 := HT1.out.cell 0; have c1 := HT1.out.cell 1; have c2 := HT1.out.cell 2; have c3 := HT1.out.cell 3
    simp at c0 c1 c2 c3
    clear her
    go_wp2_with fail
    exact bodyPost_ret (res_cellMk Tryz.results10 rfl (HT1.out.set4 _ _ _ _) rfl) rfl (MkEnd.none_ HM.out HER.out (below_set4 HB1.out (by omega) _ _ _ _))
  subst her
  have HL100 : Hid (l.length ≤ 101) := (inp_small HR1.out).1
  obtain ⟨W2, hW2⟩ : ∃ W2, w1.alloc (.map #[] 0) = W2 := ⟨_, rfl⟩
  have HM2 : Hid (Rm W2 Tryz.prog 9 w1.heap.size 0 (filG (fs.take 0))) := by rw [← hW2]; exact Rm.made w1 Tryz.prog 9
  have HB2 : Hid (Below w1.heap.size w1 W2) := by rw [← hW2]; exact (Below.refl _ w1).alloc (Nat.le_refl _) _
  have zW2 : W2.heap.size = w1.heap.size + 1 := by rw [← hW2]; simp
  go_wp2_with fail
  clear hW2
  go_loopw [36] (fun q wr => ∃ k : Nat, k ≤ fn ∧ q = .int .i64 k ∧ Hid (Rm wr Tryz.prog 9 w1.heap.size k (filG (fs.take k))) ∧ Hid (Below w1.heap.size w1 wr) ∧ w1.heap.size < wr.heap.size) (fun q _ => fn - (intOf q).toNat)
  case atStart => exact ⟨0, Nat.zero_le _, rfl, HM2.out, HB2.out, by omega⟩
  case round =>
    obtain ⟨k, hk, rfl, hM, hBel, hwz⟩ := hrel
    by_cases hlt : k < fn
    · obtain ⟨b, off, f, rfl, hbB, hfk, y0, y1⟩ := ((HF.out.below HB1.out hB).below hBel.out (by omega)).fl hlt
      have HTK := Lib.hid (take_snoc hfk)
      have HFZ := Lib.hid (HFS.out f (List.mem_of_getElem? hfk))
      have hlz : (k : Int) < (fn : Int) := by omega
      have hlk := (hM.out.alloc (.cells #[.string f.1, .string f.2] 62)).look_ok Tryz.underlying9 Tryz.underlying66 (Tryz.zeroValue9 _) HFZ.out.1
      have HK0 := Lib.hid (hM.out.alloc (.cells #[.string f.1, .string f.2] 62))
      have hk0 : Bk (wr.alloc (.cells #[.string f.1, .string f.2] 62)) wr.heap.size 62 #[.string f.1, .string f.2] := Bk.new wr _ _
      have u0 := hk0.cell 0; have u1 := hk0.cell 1
      simp at u0 u1
      have HB3 : Hid (Below w1.heap.size w1 (wr.alloc (.cells #[.string f.1, .string f.2] 62))) := hBel.out.alloc hBel.out.size _
      rw [filG_some] at hlk
      clear hfk hk0
      cases hs : (lookF (fs.take k) f.1).isSome with
      | true =>
        have HST : Hid (filG (fs.take (k + 1)) = filG (fs.take k)) := by show _ = _; rw [HTK.out]; exact filG_skip hs
        obtain ⟨x, hx⟩ : ∃ x, lookF (fs.take k) f.1 = some x := Option.isSome_iff_exists.1 hs
        have hgx : filG (fs.take k) f.1 = some (.string x) := by unfold filG; rw [hx]; rfl
        rw [hgx, hs] at hlk
        simp only [Option.getD_some] at hlk
        clear hx hgx hs
        go_wp2_with fail
        go_roundw
        case rel => exact ⟨k + 1, by omega, by go_num, by show Rm _ _ _ _ _ _; rw [HST.out]; exact HK0.out.more (by omega), HB3.out, by simp; omega⟩
        case measure => simp [intOf]; omega
      | false =>
        have HST : Hid (filG (fs.take (k + 1)) = upd (filG (fs.take k)) f.1 (.string f.2)) := by show _ = _; rw [HTK.out]; exact filG_put hs
        have hgx : filG (fs.take k) f.1 = none := by
          unfold filG
          cases hx : lookF (fs.take k) f.1 with
          | none => rfl
          | some x => rw [hx] at hs; cases hs
        rw [hgx, hs] at hlk
        simp only [Option.getD_none] at hlk
        clear hgx hs
        go_wp2_with (at_mapUpdate; refine halt_ ?_)
        refine unhalt ?_
        refine wpList_put_rm rfl _ _ _ 66 rfl 9 9 Tryz.underlying9 Tryz.underlying66 w1.heap.size k _ rfl HK0.out (by unfold maxLen; omega) f.1 HFZ.out.1 _ rfl rfl ?_
        intro w3 hM3 hg3
        have HM3 := Lib.hid hM3
        have HB4 : Hid (Below w1.heap.size w1 w3) := HB3.out.grown hg3 HB3.out.size (fun k e => by cases e; omega)
        have hz3 : w1.heap.size < w3.heap.size := by have := hg3.size; simp at this; omega
        clear hM3 hg3
        go_wp2_with fail
        go_roundw
        case rel => exact ⟨k + 1, by omega, by go_num, by show Rm _ _ _ _ _ _; rw [HST.out]; exact HM3.out, HB4.out, hz3⟩
        case measure => simp [intOf]; omega
    · have hlz : ¬ (k : Int) < (fn : Int) := by omega
      obtain rfl : fn = k := by omega
      have HMF : Hid (Rm wr Tryz.prog 9 w1.heap.size fn (filG fs)) := by
        have := hM.out; rwa [List.take_of_length_le (by rw [HFL.out]; exact Nat.le_refl _)] at this
      obtain ⟨wm, hwm⟩ : ∃ wm, wm = wr := ⟨_, rfl⟩
      subst hwm
      have HT2 := Lib.hid (HT1.out.below hBel.out (by omega))
      have HS2 := Lib.hid (HS1.out.below hBel.out (Nat.le_refl _))
      obtain ⟨W5, hW5⟩ : ∃ W5, wm.alloc (.cells #[.int .i64 kd, .string lab, .slice none 0 0, .slice none 0 0] 33) = W5 := ⟨_, rfl⟩
      have HY5 : Hid (Bk W5 wm.heap.size 33 #[.int .i64 kd, .string lab, .slice none 0 0, .slice none 0 0]) := by rw [← hW5]; exact Bk.new wm _ _
      have HB5 : Hid (Below wm.heap.size wm W5) := by rw [← hW5]; exact (Below.refl _ wm).alloc (Nat.le_refl _) _
      have zW5 : W5.heap.size = wm.heap.size + 1 := by rw [← hW5]; simp
      obtain ⟨i0, hi, hzi0, hzi1, hzi2⟩ := info_parts infoIpt
      have Hi := Lib.hid hi; have Hz0 := Lib.hid hzi0; have Hz1 := Lib.hid hzi1; have Hz2 := Lib.hid hzi2
      clear hi hzi0 hzi1 hzi2
      obtain ⟨i1, hj, hzj0, hzj1, hzj2⟩ := info_parts infoFil
      have Hj := Lib.hid hj; have Hy0 := Lib.hid hzj0; have Hy1 := Lib.hid hzj1; have Hy2 := Lib.hid hzj2
      clear hj hzj0 hzj1 hzj2
      have HW5 := Lib.hid hW5
      clear hW5
      go_wp2_with fail
      rw [HW5.out]
      have HSB : Hid (Sl wm wm.heap.size 1 nA nn (strs l)) := HS2.out.more (by omega)
      go_loopw [61] (fun q wr => ∃ (k : Nat) (A1 : Option Addr) (c1 : Nat) (A2 : Option Addr) (c2 : Nat) (acc : List Fl), k ≤ nn ∧ q = .int .i64 k ∧ k ≤ c1 ∧ c1 ≤ maxLen ∧ k ≤ c2 ∧ c2 ≤ maxLen ∧ Hid (Bk wr wm.heap.size 33 #[.int .i64 kd, .string lab, .slice A1 k c1, .slice A2 k c2]) ∧
        Hid (Apd wr (wm.heap.size + 1) 69 3 A1 k c1 (flat ipC (acc.map ipF))) ∧ Hid (Apd wr (wm.heap.size + 1) 62 2 A2 k c2 (flat flC acc)) ∧ Hid (mkG fs [] l = mkG fs acc (l.drop k)) ∧ Hid (Below wm.heap.size wm wr) ∧ wm.heap.size + 1 ≤ wr.heap.size) (fun q _ => nn - (intOf q).toNat)
      case atStart => exact ⟨0, none, 0, none, 0, [], Nat.zero_le _, rfl, Nat.le_refl _, Nat.zero_le _, Nat.le_refl _, Nat.zero_le _, HY5.out, .inr ⟨rfl, rfl, rfl⟩, .inr ⟨rfl, rfl, rfl⟩, rfl, HB5.out, by omega⟩
      case round =>
        obtain ⟨k, A1, c1, A2, c2, acc, hk2, rfl, hk1, hkm, hk3, hkm2, hY, hA1, hA2, hG, hBl, hwz2⟩ := hrel
        have HBa : Hid (Below w1.heap.size w1 wr) := hBel.out.trans (hBl.out.mono (by omega))
        have HBb : Hid (Below w.heap.size w wr) := HB1.out.trans (HBa.out.mono (by omega))
        have HTr := Lib.hid (HT1.out.below HBa.out (by omega))
        by_cases hlt2 : k < nn
        · obtain ⟨b, off, s, rfl, hbB, hx, y0⟩ := (HSB.out.below hBl.out (Nat.le_refl _)).str_at hlt2
          have hkz : (k : Int) < (nn : Int) := by omega
          have hss : s.size ≤ maxLen := by
            have := (inp_small HR1.out).2 s (List.mem_of_getElem? hx)
            unfold maxLen; omega
          have hlk := (HMF.out.below hBl.out (by omega)).look_ok Tryz.underlying9 Tryz.underlying66 (Tryz.zeroValue9 _) hss
          rw [filG_some] at hlk
          have HDR := Lib.hid (drop_at hx)
          clear hx
          cases hs : lookF fs s with
          | none =>
            have hgx : filG fs s = none := by unfold filG; rw [hs]; rfl
            rw [hgx, hs] at hlk
            simp only [Option.getD_none, Option.isSome_none] at hlk
            have HM : Hid (MkR ts lab kd fs [] 8) := ⟨l, 0, HR1.out, .inr ⟨rfl, by rw [hG.out, HDR.out, mkG_none hs]⟩⟩
            have f0 := HTr.out.free 0; have f1 := HTr.out.free 1; have f2 := HTr.out.free 2; have f3 := HTr.out.free 3
            have d0 := HTr.out.cell 0; have d1 := HTr.out.cell 1; have d2 := HTr.out.cell 2; have d3 := HTr.out.cell 3
            simp at d0 d1 d2 d3
            clear hs hgx
            go_wp2_with fail
            exact bodyPost_ret (res_cellMk Tryz.results10 rfl (HTr.out.set4 _ _ _ _) rfl) rfl (MkEnd.none_ HM.out (by decide) (below_set4 HBb.out (by omega) _ _ _ _))
          | some d =>
            have hgx : filG fs s = some (.string d) := by unfold filG; rw [hs]; rfl
            rw [hgx, hs] at hlk
            simp only [Option.getD_some, Option.isSome_some] at hlk
            have HDS := Lib.hid (HFS.out _ (lookF_mem hs)).2
            have HLS := Lib.hid hs
            clear hs hgx
            by_cases hdl : 65536 < d.size
            · have hdz : (65536 : Int) < (d.size : Int) := by omega
              have HM : Hid (MkR ts lab kd fs [] 4) := ⟨l, 0, HR1.out, .inr ⟨rfl, by rw [hG.out, HDR.out, mkG_long HLS.out hdl]⟩⟩
              have f0 := HTr.out.free 0; have f1 := HTr.out.free 1; have f2 := HTr.out.free 2; have f3 := HTr.out.free 3
              have d0 := HTr.out.cell 0; have d1 := HTr.out.cell 1; have d2 := HTr.out.cell 2; have d3 := HTr.out.cell 3
              simp at d0 d1 d2 d3
              clear hdl
              go_wp2_with fail
              exact bodyPost_ret (res_cellMk Tryz.results10 rfl (HTr.out.set4 _ _ _ _) rfl) rfl (MkEnd.none_ HM.out (by decide) (below_set4 HBb.out (by omega) _ _ _ _))
            · have hdz : ¬ (65536 : Int) < (d.size : Int) := by omega
              have HG2 : Hid (mkG fs [] l = mkG fs (acc ++ [(s, d)]) (l.drop (k + 1))) := by show _ = _; rw [hG.out, HDR.out, mkG_next HLS.out hdl]
              have x2 := hY.out.cell 2; simp at x2
              have HOF := Lib.hid (of_any d wr.drew HDS.out)
              obtain ⟨q1, q2, hq⟩ : ∃ q1 q2, ofB (toL d) = (q1, q2) := ⟨_, _, rfl⟩
              have HIP : Hid (flat ipC ((acc ++ [(s, d)]).map ipF) = flat ipC (acc.map ipF) ++ flat ipC [(s, (q1, q2))]) := by
                show _ = _
                rw [List.map_append, flat_append]; simp [ipF, hq]
              have HOE : Hid (∀ e w', OfEnd d wr.drew e w' → e = .returned (.agg #[.int .u64 q1, .int .u64 q2]) ∧ Below wr.drew.heap.size wr.drew w') := fun e w' h => by
                unfold OfEnd at h; rw [hq] at h; exact h
              have hk101 : k ≤ 101 := by have := HL100.out; have := HNL.out; omega
              clear hdl hq
              go_wp2_with fail
              go_region_law
                (first
                  | (go_simp; go_at_call 19; refine HOF.out.mono ?_; rintro e w11 hw11; obtain ⟨rfl, hb11⟩ := HOE.out _ _ hw11; have P1 := Lib.hid (hY.out.drew.below hb11 (by show wm.heap.size < wr.heap.size; omega)); have PA1 : Hid (Apd w11 (wm.heap.size + 1) 69 3 A1 k c1 (flat ipC (acc.map ipF))) := Apd.below (w := wr.drew) hA1.out hb11; have PA2 : Hid (Apd w11 (wm.heap.size + 1) 62 2 A2 k c2 (flat flC acc)) := Apd.below (w := wr.drew) hA2.out hb11; have PB : Hid (Below wm.heap.size wm w11) := hBl.out.drew.trans (hb11.mono (by show wm.heap.size ≤ wr.heap.size; omega)); have hz11 := hb11.size; have HZ11 : Hid (wr.heap.size ≤ w11.heap.size) := hz11; have m2 := P1.out.cell 2; have m2a := (P1.out.alloc (.cells #[.string s, .int .u64 q1, .int .u64 q2] 69)).cell 2; simp at m2 m2a; clear hw11 hb11 hz11)
                  | (refine step_append_apdO (by rfl) (.tmp 80) (.tmp 85) 29 (by rfl) (wm.heap.size + 1) 69 i0 _ 3 32 Tryz.underlying29 Hi.out Hz0.out Hz1.out Hz2.out rfl (by decide) A1 k c1 (flat ipC (acc.map ipF)) (by rfl) (PA1.out.below ((Below.refl _ _).alloc (Nat.le_refl _) _)) _ (some ⟨w11.heap.size, 0, none⟩) 1 1 (flat ipC [(s, (q1, q2))]) (by rfl) (Sl.of_bk (Bk.new w11 _ _) rfl) (oneCells_ip _ _) (by unfold maxLen; omega) (by omega) (by have := HZ11.out; simp; omega) ?_
                     intro A5 c5 w12 a12 hb12 hn12 hm12 hok12
                     have Q1 := Lib.hid ((P1.out.alloc (.cells #[.string s, .int .u64 q1, .int .u64 q2] 69)).below hb12 (by omega))
                     have QA1 := Lib.hid a12
                     have QA2 : Hid (Apd w12 (wm.heap.size + 1) 62 2 A2 k c2 (flat flC acc)) := (PA2.out.below ((Below.refl _ w11).alloc (Nat.le_refl _) (.cells #[.string s, .int .u64 q1, .int .u64 q2] 69))).others hok12 (by decide)
                     have QB : Hid (Below wm.heap.size wm w12) := (PB.out.alloc PB.out.size _).trans (hb12.mono (by omega))
                     have HZ12 : Hid (w11.heap.size ≤ w12.heap.size) := by have := hb12.size; simp at this; show _ ≤ _; omega
                     have r2 := Q1.out.cell 2; simp at r2
                     have f2 := Q1.out.free 2
                     clear a12 hb12 hok12))
              all_goals
                obtain ⟨W13, hW13⟩ : ∃ W13, w12.setCell ⟨wm.heap.size, 2, none⟩ (.slice A5 (k + 1) c5) = W13 := ⟨_, rfl⟩
                have R1 : Hid (Bk W13 wm.heap.size 33 #[.int .i64 kd, .string lab, .slice A5 (k + 1) c5, .slice A2 k c2]) := by
                  rw [← hW13]; have := Q1.out.set 2 (.slice A5 (k + 1) c5); show Bk _ _ _ _; simpa using this
                have RA1 : Hid (Apd W13 (wm.heap.size + 1) 69 3 A5 (k + 1) c5 (flat ipC ((acc ++ [(s, d)]).map ipF))) := by
                  show Apd _ _ _ _ _ _ _ _; rw [HIP.out, ← hW13]; exact QA1.out.setCell (by simp) _
                have RA2 : Hid (Apd W13 (wm.heap.size + 1) 62 2 A2 k c2 (flat flC acc)) := by rw [← hW13]; exact QA2.out.setCell (by simp) _
                have RB : Hid (Below wm.heap.size wm W13) := by rw [← hW13]; exact QB.out.setCell (p := ⟨wm.heap.size, 2, none⟩) (Nat.le_refl _) _
                have hz13 : wm.heap.size + 1 ≤ W13.heap.size := by
                  have h1 := HZ11.out; have h2 := HZ12.out
                  rw [← hW13, set_size']; omega
                have t3 := R1.out.cell 3; simp at t3
                rw [hW13]
                clear hW13 r2 f2 m2 m2a x2 Q1 QA1 QA2 QB
                have hfl : ∀ q : List Fl, flat flC (q ++ [(s, d)]) = flat flC q ++ flat flC [(s, d)] := fun q => flat_append _ _
                have HFLA := Lib.hid (hfl acc)
                clear hfl
                go_wp2_with (at_builtin; refine halt_ ?_)
                refine unhalt ?_
                refine wpList_append_apd (base := wm.heap.size + 1) (size := 2) _ rfl (.tmp 90) (.tmp 94) 25 rfl 62 i1 _ 32 Tryz.underlying25 Hj.out Hy0.out Hy1.out Hy2.out rfl (by decide) A2 k c2 (flat flC acc) rfl ?own_1 (W13.heap.size + 1) _ 1 _ (flat flC [(s, d)]) rfl ?nw_1 (oneCells_fi s d) ?m1_1 ?m2_1 ?m3_1 ?_
                case own_1 => exact RA2.out.below ((Below.refl _ W13).alloc (Nat.le_refl _) _)
                case nw_1 =>
                  have := Sl.of_bk (n := 1) (size := 2) (Bk.new W13 62 #[.string s, .string d]) rfl
                  rw [World.size_alloc] at this; exact this
                case m1_1 => unfold maxLen; omega
                case m2_1 => omega
                case m3_1 => simp; omega
                intro A6 c6 w14 ho14 hb14 hn14 hm14 hok14
                have S1 : Hid (Bk w14 wm.heap.size 33 #[.int .i64 kd, .string lab, .slice A5 (k + 1) c5, .slice A2 k c2]) := (R1.out.alloc _).below hb14 (by omega)
                have SA1 : Hid (Apd w14 (wm.heap.size + 1) 69 3 A5 (k + 1) c5 (flat ipC ((acc ++ [(s, d)]).map ipF))) := (RA1.out.below ((Below.refl _ W13).alloc (Nat.le_refl _) (.cells #[.string s, .string d] 62))).others hok14 (by decide)
                have SA2 : Hid (Apd w14 (wm.heap.size + 1) 62 2 A6 (k + 1) c6 (flat flC (acc ++ [(s, d)]))) := by show Apd _ _ _ _ _ _ _ _; rw [HFLA.out]; exact ho14
                have SB : Hid (Below wm.heap.size wm w14) := (RB.out.alloc RB.out.size _).trans (hb14.mono (by omega))
                have hz14 := hb14.size
                rw [World.size_alloc] at hz14
                have t4 := S1.out.cell 3; simp at t4
                have f4 := S1.out.free 3
                clear ho14 hb14 hok14 t3
                go_wp2_with fail
                go_roundw
                case rel =>
                  refine ⟨k + 1, A5, c5, A6, c6, acc ++ [(s, d)], hlt2, by go_num, hn12, hm12, hn14, hm14, ?_, SA1.out.setCell (by simp) _, SA2.out.setCell (by simp) _, HG2.out, SB.out.setCell (p := ⟨wm.heap.size, 3, none⟩) (Nat.le_refl _) _, by rw [set_size']; omega⟩
                  have := S1.out.set 3 (.slice A6 (k + 1) c6); show Bk _ _ _ _; simpa using this
                case measure => simp [intOf]; omega
        · have hkz : ¬ (k : Int) < (nn : Int) := by omega
          obtain rfl : nn = k := by omega
          have HM : Hid (MkR ts lab kd fs acc 0) := ⟨l, 0, HR1.out, .inr ⟨rfl, by rw [hG.out, List.drop_of_length_le (by rw [HNL.out]; exact Nat.le_refl _)]; rfl⟩⟩
          have f0 := HTr.out.free 0; have f1 := HTr.out.free 1; have f2 := HTr.out.free 2; have f3 := HTr.out.free 3
          have d0 := HTr.out.cell 0; have d1 := HTr.out.cell 1; have d2 := HTr.out.cell 2; have d3 := HTr.out.cell 3
          have e0 := hY.out.cell 0; have e1 := hY.out.cell 1; have e2 := hY.out.cell 2; have e3 := hY.out.cell 3
          simp at d0 d1 d2 d3 e0 e1 e2 e3
          go_wp2_with fail
          refine bodyPost_ret (res_cellMk Tryz.results10 rfl (HTr.out.set4 _ _ _ _) rfl) rfl ?_
          exact ⟨kd, lab, A1, nn, c1, A2, nn, c2, acc, 0, rfl, ⟨(if_pos rfl).symm, (if_pos rfl).symm, ((((hA1.out.setCell (by show w.heap.size + 1 < _; omega) _).setCell (by show w.heap.size + 1 < _; omega) _).setCell (by show w.heap.size + 1 < _; omega) _).setCell (by show w.heap.size + 1 < _; omega) _).sl, ((((hA2.out.setCell (by show w.heap.size + 1 < _; omega) _).setCell (by show w.heap.size + 1 < _; omega) _).setCell (by show w.heap.size + 1 < _; omega) _).setCell (by show w.heap.size + 1 < _; omega) _).sl⟩, hk1, hkm, hk3, hkm2, HM.out, below_set4 HBb.out (by omega) _ _ _ _⟩
end Go.Proofs.YtiphbincnnppdaaGreatDoor

namespace Go.Proofs.YtiphbincnnppdaaGreatDoor
open Go.RowKit Go.Maps

/-- the index of the first target with a label, or -1 -/
def posI : List Tg → ByteArray → Int
  | [], _ => -1
  | t :: ts, s => if t.lab = s then 0 else if posI ts s < 0 then -1 else posI ts s + 1
theorem posI_neg : ∀ (ts : List Tg) (s : ByteArray), posI ts s < 0 → posI ts s = -1
  | [], _, _ => rfl
  | t :: ts, s, h => by
    simp only [posI] at h ⊢
    split at h
    · omega
    · split at h
      · rename_i h1 h2; rw [if_neg h1, if_pos h2]
      · omega
theorem posI_none : ∀ {ts : List Tg} {s : ByteArray}, findT ts s = none → posI ts s = -1
  | [], _, _ => rfl
  | t :: ts, s, h => by
    simp only [findT] at h
    by_cases e : t.lab = s
    · rw [if_pos e] at h; cases h
    · rw [if_neg e] at h
      simp only [posI, if_neg e, posI_none h]
      simp
theorem posI_some : ∀ {ts : List Tg} {s : ByteArray} {t : Tg}, findT ts s = some t → ∃ k : Nat, posI ts s = k ∧ ts[k]? = some t
  | [], _, _, h => by cases h
  | r :: ts, s, t, h => by
    simp only [findT] at h
    by_cases e : r.lab = s
    · rw [if_pos e] at h; cases h
      exact ⟨0, by simp [posI, e], rfl⟩
    · rw [if_neg e] at h
      obtain ⟨k, h1, h2⟩ := posI_some h
      exact ⟨k + 1, by simp only [posI, if_neg e, h1]; rw [if_neg (by omega)]; omega, by simpa using h2⟩
theorem posI_isT (ts : List Tg) (s : ByteArray) : isT ts s = decide (0 ≤ posI ts s) := by
  unfold isT
  cases hf : findT ts s with
  | none => rw [posI_none hf]; rfl
  | some t => obtain ⟨k, h1, _⟩ := posI_some hf; rw [h1]; simp
theorem posI_here : ∀ {ts : List Tg} {s : ByteArray} {k : Nat} {t : Tg}, findT (ts.take k) s = none → ts[k]? = some t → t.lab = s → posI ts s = k
  | [], _, _, _, _, h, _ => by simp at h
  | r :: ts, s, 0, t, _, h, e => by simp at h; subst h; simp [posI, e]
  | r :: ts, s, k + 1, t, h0, h, e => by
    simp only [List.take_succ_cons, findT] at h0
    by_cases e' : r.lab = s
    · rw [if_pos e'] at h0; cases h0
    · rw [if_neg e'] at h0
      simp only [posI, if_neg e', posI_here h0 (by simpa using h) e]
      rw [if_neg (by omega)]; omega

set_option maxRecDepth 100000 in
set_option maxHeartbeats 1000000 in
theorem rfind_any (A : Option Addr) (n c B : Nat) (ts : List Tg) (lab : ByteArray) (w : World) (h0 : Sl w B 4 A n (flat tgC ts)) (hn : n ≤ 9223372036854775807) :
    Calls Tryz.prog 57 #[.slice A n c, .string lab] w fun e w' => e = .returned (.int .i64 (posI ts lab)) ∧ w = w' := by
  have HL := Lib.hid (h0.len tgC_len (by omega))
  have H0 := Lib.hid h0
  clear h0
  go_enter Tryz.func57, Tryz.ntmps57
  go_wp2
  go_loop [5] (fun i => ∃ k : Nat, k ≤ n ∧ i = .int .i64 k ∧ Hid (findT (ts.take k) lab = none)) (fun i => n - (intOf i).toNat)
  case atStart => exact ⟨0, Nat.zero_le _, rfl, rfl⟩
  case round =>
    obtain ⟨k, hk, rfl, hF⟩ := hrel
    by_cases hlt : k < n
    · obtain ⟨bb, off, t, rfl, hbB, ht, y0, y1, y2, y3⟩ := H0.out.tg hlt
      have hlz : (k : Int) < (n : Int) := by omega
      by_cases e : t.lab = lab
      · have HE := Lib.hid (posI_here hF.out ht e)
        have hse := str_dec t.lab lab
        rw [decide_eq_true e] at hse
        clear e ht
        go_wp2
        go_ret
        exact ⟨ret_int HE.out.symm, rfl⟩
      · have HE := Lib.hid (findT_pass hF.out ht e)
        have hse := str_dec t.lab lab
        rw [decide_eq_false e] at hse
        clear e ht
        go_wp2
        go_round
        case rel => exact ⟨k + 1, by omega, by go_num, HE.out⟩
        case measure => simp [intOf]; omega
    · have hlz : ¬ (k : Int) < (n : Int) := by omega
      have h1 := hF.out
      rw [List.take_of_length_le (by rw [HL.out]; omega)] at h1
      have HE := Lib.hid (posI_none h1)
      clear h1
      go_wp2
      go_ret
      exact ⟨ret_int HE.out.symm, rfl⟩
theorem memB_snoc (l : List ByteArray) (y x : ByteArray) : memB (l ++ [y]) x = (memB l x || decide (y = x)) := by simp [memB]
theorem memB_take {l : List ByteArray} {k : Nat} {x y : ByteArray} (h : memB (l.take k) x = false) (hy : l[k]? = some y) (e : y ≠ x) : memB (l.take (k + 1)) x = false := by
  rw [take_snoc hy, memB_snoc, h]; simp [e]
theorem memB_here {l : List ByteArray} {k n : Nat} {x y : ByteArray} (hy : l[k]? = some y) (hk : k < n) (e : y = x) : memB (l.take n) x = true := by
  rw [memB_iff, ← e]
  exact List.mem_of_getElem? (i := k) (by rw [List.getElem?_take, if_pos hk]; exact hy)
set_option maxRecDepth 100000 in
set_option maxHeartbeats 1000000 in
theorem rhas_any (A : Option Addr) (n m c B : Nat) (l : List ByteArray) (x : ByteArray) (w : World) (h0 : Sl w B 1 A m (strs l)) (hnm : n ≤ m) (hn : m ≤ 9223372036854775807) :
    Calls Tryz.prog 110 #[.slice A n c, .string x] w fun e w' => e = .returned (.bool (memB (l.take n) x)) ∧ w = w' := by
  have H0 := Lib.hid h0
  clear h0
  go_enter Tryz.func110, Tryz.ntmps110
  go_wp2
  go_loop [5] (fun i => ∃ k : Nat, k ≤ n ∧ i = .int .i64 k ∧ Hid (memB (l.take k) x = false)) (fun i => n - (intOf i).toNat)
  case atStart => exact ⟨0, Nat.zero_le _, rfl, rfl⟩
  case round =>
    obtain ⟨k, hk, rfl, hF⟩ := hrel
    by_cases hlt : k < n
    · obtain ⟨bb, off, y, rfl, hbB, ht, y0⟩ := H0.out.str_at (show k < m by omega)
      have hlz : (k : Int) < (n : Int) := by omega
      have hse := str_dec y x
      by_cases e : y = x
      · have HE := Lib.hid (memB_here ht hlt e)
        rw [decide_eq_true e] at hse
        clear e ht
        go_wp2
        go_ret
        exact ⟨ret_bool HE.out.symm, rfl⟩
      · have HE := Lib.hid (memB_take hF.out ht e)
        rw [decide_eq_false e] at hse
        clear e ht
        go_wp2
        go_round
        case rel => exact ⟨k + 1, by omega, by go_num, HE.out⟩
        case measure => simp [intOf]; omega
    · have hlz : ¬ (k : Int) < (n : Int) := by omega
      obtain rfl : n = k := by omega
      go_wp2
      go_ret
      exact ⟨ret_bool hF.out.symm, rfl⟩
end Go.Proofs.YtiphbincnnppdaaGreatDoor

namespace Go.Proofs.YtiphbincnnppdaaGreatDoor
open Go.RowKit Go.Maps

theorem posS_at : ∀ {l : List ByteArray} {s : ByteArray} {k : Nat}, (∀ y ∈ l.take k, less y s = true) → k ≤ l.length → (k = l.length ∨ ∃ y, l[k]? = some y ∧ less y s = false) → posS l s = k
  | [], s, k, _, h, _ => by simp at h; simp [posS, h]
  | r :: l, s, 0, _, _, h => by
    rcases h with h | ⟨y, hy, h⟩
    · simp at h
    · simp at hy; subst hy; simp [posS, h]
  | r :: l, s, k + 1, h1, h2, h3 => by
    have hr := h1 r (by simp)
    simp only [posS, hr, if_true]
    rw [posS_at (k := k) (fun y hy => h1 y (by simp [hy])) (by simp at h2; omega) (by
      rcases h3 with h3 | ⟨y, hy, h3⟩
      · left; simp at h3; omega
      · right; exact ⟨y, by simpa using hy, h3⟩)]
theorem strs_take (l : List ByteArray) (k : Nat) : strs (l.take k) = (strs l).take k := by simp [strs]
theorem strs_drop (l : List ByteArray) (k : Nat) : strs (l.drop k) = (strs l).drop k := by simp [strs]
theorem Sl.strs_take {w : World} {B n k : Nat} {A : Option Addr} {l : List ByteArray} (h : Sl w B 1 A n (strs l)) (hk : k ≤ n) : Sl w B 1 A k (strs (l.take k)) := by
  have hl : l.length = n := by have := h.1; rw [strs_len] at this; omega
  refine ⟨by rw [strs_len, List.length_take]; omega, fun hk0 => ?_⟩
  obtain ⟨b, off, e, hb, hc⟩ := h.2 (by omega)
  refine ⟨b, off, e, hb, fun j u hu => hc j u ?_⟩
  rw [_root_.Go.Proofs.YtiphbincnnppdaaGreatDoor.strs_take, List.getElem?_take] at hu
  split at hu
  · exact hu
  · cases hu
theorem strs_one (l : List ByteArray) : ∀ u ∈ strs l, u.oneCell' = true := fun u hu => by
  obtain ⟨x, _, rfl⟩ := List.mem_map.1 hu; rfl
theorem strs_app (l m : List ByteArray) : strs (l ++ m) = strs l ++ strs m := by simp [strs]
theorem Apd.fresh {w : World} {base size n c : Nat} {e : TypeId} {A : Option Addr} {xs : List Value} (h : Apd w base e size A n c xs) (hn : 0 < n) : ∀ q, A = some q → base ≤ q.block := fun q hq => by
  rcases h with h | ⟨h, _⟩
  · rcases h.2 with ⟨hv, _⟩ | ⟨g, cap, cur, hv, h1, _⟩
    · simp only [Value.slice.injEq] at hv; rw [hv.1] at hq; cases hq
    · simp only [Value.slice.injEq] at hv; rw [hv.1] at hq; cases hq; exact h1
  · omega
/-- what insert hands back -/
def InsEnd (l : List ByteArray) (s : ByteArray) (w : World) (e : Ending) (w' : World) : Prop :=
  ∃ A' c', e = .returned (.slice A' (insS l s).length c') ∧ Sl w' w'.heap.size 1 A' (insS l s).length (strs (insS l s)) ∧ (insS l s).length ≤ c' ∧ c' ≤ maxLen ∧ Below w.heap.size w w' ∧ (s ∉ l → ∀ q, A' = some q → w.heap.size ≤ q.block)

set_option maxRecDepth 100000 in
set_option maxHeartbeats 4000000 in
theorem rinsert_any (A : Option Addr) (n c B : Nat) (l : List ByteArray) (s : ByteArray) (w : World) (h0 : Sl w B 1 A n (strs l)) (hB : B ≤ w.heap.size) (hnc : n ≤ c) (hcm : c ≤ maxLen) (hn : n ≤ 1000000) :
    Calls Tryz.prog 111 #[.slice A n c, .string s] w (InsEnd l s w) := by
  have HL : Hid (l.length = n) := by have := h0.1; rw [strs_len] at this; show _ = _; omega
  have H0 := Lib.hid h0; have HCM := Lib.hid hcm
  clear h0 hcm
  obtain ⟨i0, hi, hz0, hz1, hz2⟩ := info_parts infoStr
  have Hi := Lib.hid hi; have Hz0 := Lib.hid hz0; have Hz1 := Lib.hid hz1; have Hz2 := Lib.hid hz2
  clear hi hz0 hz1 hz2
  go_enter Tryz.func111, Tryz.ntmps111
  go_wp2
  go_loop [5] (fun i => ∃ k : Nat, k ≤ n ∧ i = .int .i64 k ∧ Hid (∀ y ∈ l.take k, less y s = true)) (fun i => n - (intOf i).toNat)
  case atStart => exact ⟨0, Nat.zero_le _, rfl, by simp [Hid]⟩
  case round =>
    obtain ⟨k, hk, rfl, hall⟩ := hrel
    have tk := run_slice_to (P := Tryz.prog) 58 i0 Tryz.underlying58 Hi.out A n c k (by omega)
    by_cases hlt : k < n
    · obtain ⟨b, off, y, rfl, hbB, hy, x0⟩ := H0.out.str_at hlt
      have hlz : (k : Int) < (n : Int) := by omega
      have HY := Lib.hid hy
      clear hy
      have t1 := less_str y s
      cases hl : less y s with
      | true =>
        rw [hl] at t1
        have hnx : Hid (∀ q ∈ l.take (k + 1), less q s = true) := by
          intro q hq
          rw [take_snoc HY.out] at hq
          rcases List.mem_append.1 hq with h | h
          · exact hall.out q h
          · rw [List.mem_singleton.1 h]; exact hl
        clear hl
        go_wp2
        go_round
        case rel => exact ⟨k + 1, by omega, by go_num, hnx⟩
        case measure => simp [intOf]; omega
      | false =>
        rw [hl] at t1
        have HP : Hid (posS l s = k) := posS_at hall.out (by rw [HL.out]; exact hk) (.inr ⟨y, HY.out, hl⟩)
        clear hl
        have t2 := str_dec y s
        by_cases he : y = s
        · have HE : Hid (insS l s = l) := insS_has (by rw [HP.out, HY.out, he])
          have HE2 : Hid (s ∈ l) := by show _ ∈ _; rw [← he]; exact List.mem_of_getElem? HY.out
          rw [decide_eq_true he] at t2
          clear he
          go_wp2
          go_ret
          refine ⟨some ⟨b, off, none⟩, c, ?_, ?_, ?_, HCM.out, Below.refl _ _, fun h => absurd (HE2.out) h⟩
          · rw [HE.out, HL.out]; rfl
          · rw [HE.out, HL.out]; exact H0.out.more hB
          · rw [HE.out, HL.out]; exact hnc
        · have HNE : Hid (l[k]? ≠ some s) := by show _ ≠ _; rw [HY.out]; intro h; cases h; exact he rfl
          rw [decide_eq_false he] at t2
          clear he
          obtain ⟨Ak, hAr, hAk⟩ := run_slice_from (P := Tryz.prog) 58 i0 Tryz.underlying58 Hi.out Hz1.out (some ⟨b, off, none⟩) n c k hk hnc
          have HAk := Lib.hid hAk
          clear hAk
          go_wp2_with (at_builtin; refine halt_ ?_)
          refine unhalt ?_
          refine wpList_append_apd (base := w.heap.size) (size := 1) _ rfl (.tmp 34) (.tmp 37) 58 rfl 9 i0 _ 16 Tryz.underlying58 Hi.out Hz0.out Hz1.out Hz2.out rfl (by decide) _ 0 0 [] rfl (.inr ⟨rfl, rfl, rfl⟩) B _ k _ (strs (l.take k)) rfl ?hs1x (strs_one _) ?b1x ?b2x ?b3x ?_
          case hs1x => exact (H0.out.strs_take hk).alloc hB _
          case b1x => unfold maxLen; omega
          case b2x => omega
          case b3x => simp
          intro A1 c1 w1 ha1 hb1 hc1 hm1 _
          simp only [Nat.zero_add, List.nil_append] at ha1
          rw [Nat.zero_add]
          have HA1 := Lib.hid ha1
          have HB1 : Hid (Below w.heap.size w w1) := ((Below.refl _ w).alloc (Nat.le_refl _) _).trans hb1
          clear ha1 hb1 hc1 hm1
          go_wp2_with (at_builtin; refine halt_ ?_)
          refine unhalt ?_
          refine wpList_append_apd (base := w.heap.size) (size := 1) _ rfl (.tmp 39) (.tmp 41) 58 rfl 9 i0 _ 16 Tryz.underlying58 Hi.out Hz0.out Hz1.out Hz2.out rfl (by decide) A1 k c1 (strs (l.take k)) rfl ?ow2x (w1.heap.size + 1) _ 1 _ [.string s] rfl ?hs2x (by simp [Value.oneCell']) ?b4x ?b5x ?b6x ?_
          case ow2x => exact HA1.out.below ((Below.refl _ w1).alloc (Nat.le_refl _) _)
          case hs2x => exact ⟨rfl, fun _ => ⟨w1.heap.size, 0, rfl, Nat.lt_succ_self _, fun j u hu => by have := new_cell w1 9 s j u hu; rwa [Addr.add_lit] at this⟩⟩
          case b4x => unfold maxLen; omega
          case b5x => omega
          case b6x => have := HB1.out.size; simp; omega
          intro A2 c2 w2 ha2 hb2 hc2 hm2 _
          have HA2 := Lib.hid ha2
          have HB2 : Hid (Below w.heap.size w w2) := (HB1.out.alloc HB1.out.size _).trans hb2
          clear ha2 hb2 hc2 hm2
          go_wp2_with (at_builtin; refine halt_ ?_)
          refine unhalt ?_
          refine wpList_append_apd (base := w.heap.size) (size := 1) _ rfl (.tmp 43) (.tmp 46) 58 rfl 9 i0 _ 16 Tryz.underlying58 Hi.out Hz0.out Hz1.out Hz2.out rfl (by decide) A2 (k + 1) c2 (strs (l.take k) ++ [.string s]) rfl HA2.out B Ak (n - k) (c - k) (strs (l.drop k)) rfl ?hs3x (strs_one _) ?b7x ?b8x ?b9x ?_
          case hs3x => rw [strs_drop]; have := HAk.out w2 B _ (H0.out.below HB2.out hB); rwa [Nat.mul_one] at this
          case b7x => unfold maxLen; omega
          case b8x => omega
          case b9x => exact HB2.out.size
          intro A3 c3 w3 ha3 hb3 hc3 hm3 _
          have HE : Hid (insS l s = l.take k ++ [s] ++ l.drop k) := by
            have := insS_new (l := l) (s := s) (by rw [HP.out]; exact HNE.out)
            rw [HP.out] at this; exact this
          have HEL : Hid ((insS l s).length = k + 1 + (n - k)) := by
            show _ = _
            rw [HE.out]; simp [HL.out]; omega
          have HS3 : Hid (Sl w3 w3.heap.size 1 A3 (insS l s).length (strs (insS l s))) := by
            show Sl _ _ _ _ _ _
            rw [HEL.out, HE.out, strs_app, strs_app]; exact ha3.sl
          have HB3 : Hid (Below w.heap.size w w3) := HB2.out.trans hb3
          have HFR := Lib.hid (ha3.fresh (by omega))
          clear ha3 hb3
          go_wp2
          go_ret
          rw [← HEL.out] at hc3 ⊢
          exact ⟨A3, c3, rfl, HS3.out, hc3, hm3, HB3.out, fun _ => HFR.out⟩
    · have hlz : ¬ (k : Int) < (n : Int) := by omega
      have HP : Hid (posS l s = k) := posS_at hall.out (by rw [HL.out]; exact hk) (.inl (by rw [HL.out]; omega))
      have HNE : Hid (l[k]? ≠ some s) := by show _ ≠ _; rw [List.getElem?_eq_none (by rw [HL.out]; omega)]; intro h; cases h
      obtain ⟨Ak, hAr, hAk⟩ := run_slice_from (P := Tryz.prog) 58 i0 Tryz.underlying58 Hi.out Hz1.out A n c k hk hnc
      have HAk := Lib.hid hAk
      clear hAk
      go_wp2_with (at_builtin; refine halt_ ?_)
      refine unhalt ?_
      refine wpList_append_apd (base := w.heap.size) (size := 1) _ rfl (.tmp 34) (.tmp 37) 58 rfl 9 i0 _ 16 Tryz.underlying58 Hi.out Hz0.out Hz1.out Hz2.out rfl (by decide) _ 0 0 [] rfl (.inr ⟨rfl, rfl, rfl⟩) B _ k _ (strs (l.take k)) rfl ?hs1y (strs_one _) ?b1y ?b2y ?b3y ?_
      case hs1y => exact (H0.out.strs_take hk).alloc hB _
      case b1y => unfold maxLen; omega
      case b2y => omega
      case b3y => simp
      intro A1 c1 w1 ha1 hb1 hc1 hm1 _
      simp only [Nat.zero_add, List.nil_append] at ha1
      rw [Nat.zero_add]
      have HA1 := Lib.hid ha1
      have HB1 : Hid (Below w.heap.size w w1) := ((Below.refl _ w).alloc (Nat.le_refl _) _).trans hb1
      clear ha1 hb1 hc1 hm1
      go_wp2_with (at_builtin; refine halt_ ?_)
      refine unhalt ?_
      refine wpList_append_apd (base := w.heap.size) (size := 1) _ rfl (.tmp 39) (.tmp 41) 58 rfl 9 i0 _ 16 Tryz.underlying58 Hi.out Hz0.out Hz1.out Hz2.out rfl (by decide) A1 k c1 (strs (l.take k)) rfl ?ow2y (w1.heap.size + 1) _ 1 _ [.string s] rfl ?hs2y (by simp [Value.oneCell']) ?b4y ?b5y ?b6y ?_
      case ow2y => exact HA1.out.below ((Below.refl _ w1).alloc (Nat.le_refl _) _)
      case hs2y => exact ⟨rfl, fun _ => ⟨w1.heap.size, 0, rfl, Nat.lt_succ_self _, fun j u hu => by have := new_cell w1 9 s j u hu; rwa [Addr.add_lit] at this⟩⟩
      case b4y => unfold maxLen; omega
      case b5y => omega
      case b6y => have := HB1.out.size; simp; omega
      intro A2 c2 w2 ha2 hb2 hc2 hm2 _
      have HA2 := Lib.hid ha2
      have HB2 : Hid (Below w.heap.size w w2) := (HB1.out.alloc HB1.out.size _).trans hb2
      clear ha2 hb2 hc2 hm2
      go_wp2_with (at_builtin; refine halt_ ?_)
      refine unhalt ?_
      refine wpList_append_apd (base := w.heap.size) (size := 1) _ rfl (.tmp 43) (.tmp 46) 58 rfl 9 i0 _ 16 Tryz.underlying58 Hi.out Hz0.out Hz1.out Hz2.out rfl (by decide) A2 (k + 1) c2 (strs (l.take k) ++ [.string s]) rfl HA2.out B Ak (n - k) (c - k) (strs (l.drop k)) rfl ?hs3y (strs_one _) ?b7y ?b8y ?b9y ?_
      case hs3y => rw [strs_drop]; have := HAk.out w2 B _ (H0.out.below HB2.out hB); rwa [Nat.mul_one] at this
      case b7y => unfold maxLen; omega
      case b8y => omega
      case b9y => exact HB2.out.size
      intro A3 c3 w3 ha3 hb3 hc3 hm3 _
      have HE : Hid (insS l s = l.take k ++ [s] ++ l.drop k) := by
        have := insS_new (l := l) (s := s) (by rw [HP.out]; exact HNE.out)
        rw [HP.out] at this; exact this
      have HEL : Hid ((insS l s).length = k + 1 + (n - k)) := by
        show _ = _
        rw [HE.out]; simp [HL.out]; omega
      have HS3 : Hid (Sl w3 w3.heap.size 1 A3 (insS l s).length (strs (insS l s))) := by
        show Sl _ _ _ _ _ _
        rw [HEL.out, HE.out, strs_app, strs_app]; exact ha3.sl
      have HB3 : Hid (Below w.heap.size w w3) := HB2.out.trans hb3
      have HFR := Lib.hid (ha3.fresh (by omega))
      clear ha3 hb3
      go_wp2
      go_ret
      rw [← HEL.out] at hc3 ⊢
      exact ⟨A3, c3, rfl, HS3.out, hc3, hm3, HB3.out, fun _ => HFR.out⟩

set_option maxRecDepth 100000 in
set_option maxHeartbeats 4000000 in
theorem rwith_any (A : Option Addr) (n c B : Nat) (l : List ByteArray) (s : ByteArray) (w : World) (h0 : Sl w B 1 A n (strs l)) (hB : B ≤ w.heap.size) (hnc : n ≤ c) (hcm : c ≤ maxLen) (hn : n ≤ 1000000) :
    Calls Tryz.prog 59 #[.slice A n c, .string s] w (InsEnd l s w) := by
  have HL : Hid (l.length = n) := by have := h0.1; rw [strs_len] at this; show _ = _; omega
  have H0 := Lib.hid h0; have HCM := Lib.hid hcm
  clear h0 hcm
  obtain ⟨i0, hi, hz0, hz1, hz2⟩ := info_parts infoStr
  have Hi := Lib.hid hi; have Hz0 := Lib.hid hz0; have Hz1 := Lib.hid hz1; have Hz2 := Lib.hid hz2
  clear hi hz0 hz1 hz2
  go_enter Tryz.func59, Tryz.ntmps59
  go_wp2
  go_loop [5] (fun i => ∃ k : Nat, k ≤ n ∧ i = .int .i64 k ∧ Hid (∀ y ∈ l.take k, less y s = true)) (fun i => n - (intOf i).toNat)
  case atStart => exact ⟨0, Nat.zero_le _, rfl, by simp [Hid]⟩
  case round =>
    obtain ⟨k, hk, rfl, hall⟩ := hrel
    have tk := run_slice_to (P := Tryz.prog) 58 i0 Tryz.underlying58 Hi.out A n c k (by omega)
    by_cases hlt : k < n
    · obtain ⟨b, off, y, rfl, hbB, hy, x0⟩ := H0.out.str_at hlt
      have hlz : (k : Int) < (n : Int) := by omega
      have HY := Lib.hid hy
      clear hy
      have t1 := less_str y s
      cases hl : less y s with
      | true =>
        rw [hl] at t1
        have hnx : Hid (∀ q ∈ l.take (k + 1), less q s = true) := by
          intro q hq
          rw [take_snoc HY.out] at hq
          rcases List.mem_append.1 hq with h | h
          · exact hall.out q h
          · rw [List.mem_singleton.1 h]; exact hl
        clear hl
        go_wp2
        go_round
        case rel => exact ⟨k + 1, by omega, by go_num, hnx⟩
        case measure => simp [intOf]; omega
      | false =>
        rw [hl] at t1
        have HP : Hid (posS l s = k) := posS_at hall.out (by rw [HL.out]; exact hk) (.inr ⟨y, HY.out, hl⟩)
        clear hl
        have t2 := str_dec y s
        by_cases he : y = s
        · have HE : Hid (insS l s = l) := insS_has (by rw [HP.out, HY.out, he])
          have HE2 : Hid (s ∈ l) := by show _ ∈ _; rw [← he]; exact List.mem_of_getElem? HY.out
          rw [decide_eq_true he] at t2
          clear he
          go_wp2
          go_ret
          refine ⟨some ⟨b, off, none⟩, c, ?_, ?_, ?_, HCM.out, Below.refl _ _, fun h => absurd (HE2.out) h⟩
          · rw [HE.out, HL.out]; rfl
          · rw [HE.out, HL.out]; exact H0.out.more hB
          · rw [HE.out, HL.out]; exact hnc
        · have HNE : Hid (l[k]? ≠ some s) := by show _ ≠ _; rw [HY.out]; intro h; cases h; exact he rfl
          rw [decide_eq_false he] at t2
          clear he
          obtain ⟨Ak, hAr, hAk⟩ := run_slice_from (P := Tryz.prog) 58 i0 Tryz.underlying58 Hi.out Hz1.out (some ⟨b, off, none⟩) n c k hk hnc
          have HAk := Lib.hid hAk
          clear hAk
          go_wp2_with (at_builtin; refine halt_ ?_)
          refine unhalt ?_
          refine wpList_append_apd (base := w.heap.size) (size := 1) _ rfl (.tmp 34) (.tmp 37) 58 rfl 9 i0 _ 16 Tryz.underlying58 Hi.out Hz0.out Hz1.out Hz2.out rfl (by decide) _ 0 0 [] rfl (.inr ⟨rfl, rfl, rfl⟩) B _ k _ (strs (l.take k)) rfl ?hs1x (strs_one _) ?b1x ?b2x ?b3x ?_
          case hs1x => exact (H0.out.strs_take hk).alloc hB _
          case b1x => unfold maxLen; omega
          case b2x => omega
          case b3x => simp
          intro A1 c1 w1 ha1 hb1 hc1 hm1 _
          simp only [Nat.zero_add, List.nil_append] at ha1
          rw [Nat.zero_add]
          have HA1 := Lib.hid ha1
          have HB1 : Hid (Below w.heap.size w w1) := ((Below.refl _ w).alloc (Nat.le_refl _) _).trans hb1
          clear ha1 hb1 hc1 hm1
          go_wp2_with (at_builtin; refine halt_ ?_)
          refine unhalt ?_
          refine wpList_append_apd (base := w.heap.size) (size := 1) _ rfl (.tmp 38) (.tmp 40) 58 rfl 9 i0 _ 16 Tryz.underlying58 Hi.out Hz0.out Hz1.out Hz2.out rfl (by decide) A1 k c1 (strs (l.take k)) rfl ?ow2x (w1.heap.size + 1) _ 1 _ [.string s] rfl ?hs2x (by simp [Value.oneCell']) ?b4x ?b5x ?b6x ?_
          case ow2x => exact HA1.out.below ((Below.refl _ w1).alloc (Nat.le_refl _) _)
          case hs2x => exact ⟨rfl, fun _ => ⟨w1.heap.size, 0, rfl, Nat.lt_succ_self _, fun j u hu => by have := new_cell w1 9 s j u hu; rwa [Addr.add_lit] at this⟩⟩
          case b4x => unfold maxLen; omega
          case b5x => omega
          case b6x => have := HB1.out.size; simp; omega
          intro A2 c2 w2 ha2 hb2 hc2 hm2 _
          have HA2 := Lib.hid ha2
          have HB2 : Hid (Below w.heap.size w w2) := (HB1.out.alloc HB1.out.size _).trans hb2
          clear ha2 hb2 hc2 hm2
          go_wp2_with (at_builtin; refine halt_ ?_)
          refine unhalt ?_
          refine wpList_append_apd (base := w.heap.size) (size := 1) _ rfl (.tmp 42) (.tmp 45) 58 rfl 9 i0 _ 16 Tryz.underlying58 Hi.out Hz0.out Hz1.out Hz2.out rfl (by decide) A2 (k + 1) c2 (strs (l.take k) ++ [.string s]) rfl HA2.out B Ak (n - k) (c - k) (strs (l.drop k)) rfl ?hs3x (strs_one _) ?b7x ?b8x ?b9x ?_
          case hs3x => rw [strs_drop]; have := HAk.out w2 B _ (H0.out.below HB2.out hB); rwa [Nat.mul_one] at this
          case b7x => unfold maxLen; omega
          case b8x => omega
          case b9x => exact HB2.out.size
          intro A3 c3 w3 ha3 hb3 hc3 hm3 _
          have HE : Hid (insS l s = l.take k ++ [s] ++ l.drop k) := by
            have := insS_new (l := l) (s := s) (by rw [HP.out]; exact HNE.out)
            rw [HP.out] at this; exact this
          have HEL : Hid ((insS l s).length = k + 1 + (n - k)) := by
            show _ = _
            rw [HE.out]; simp [HL.out]; omega
          have HS3 : Hid (Sl w3 w3.heap.size 1 A3 (insS l s).length (strs (insS l s))) := by
            show Sl _ _ _ _ _ _
            rw [HEL.out, HE.out, strs_app, strs_app]; exact ha3.sl
          have HB3 : Hid (Below w.heap.size w w3) := HB2.out.trans hb3
          have HFR := Lib.hid (ha3.fresh (by omega))
          clear ha3 hb3
          go_wp2
          go_ret
          rw [← HEL.out] at hc3 ⊢
          exact ⟨A3, c3, rfl, HS3.out, hc3, hm3, HB3.out, fun _ => HFR.out⟩
    · have hlz : ¬ (k : Int) < (n : Int) := by omega
      have HP : Hid (posS l s = k) := posS_at hall.out (by rw [HL.out]; exact hk) (.inl (by rw [HL.out]; omega))
      have HNE : Hid (l[k]? ≠ some s) := by show _ ≠ _; rw [List.getElem?_eq_none (by rw [HL.out]; omega)]; intro h; cases h
      obtain ⟨Ak, hAr, hAk⟩ := run_slice_from (P := Tryz.prog) 58 i0 Tryz.underlying58 Hi.out Hz1.out A n c k hk hnc
      have HAk := Lib.hid hAk
      clear hAk
      go_wp2_with (at_builtin; refine halt_ ?_)
      refine unhalt ?_
      refine wpList_append_apd (base := w.heap.size) (size := 1) _ rfl (.tmp 34) (.tmp 37) 58 rfl 9 i0 _ 16 Tryz.underlying58 Hi.out Hz0.out Hz1.out Hz2.out rfl (by decide) _ 0 0 [] rfl (.inr ⟨rfl, rfl, rfl⟩) B _ k _ (strs (l.take k)) rfl ?hs1y (strs_one _) ?b1y ?b2y ?b3y ?_
      case hs1y => exact (H0.out.strs_take hk).alloc hB _
      case b1y => unfold maxLen; omega
      case b2y => omega
      case b3y => simp
      intro A1 c1 w1 ha1 hb1 hc1 hm1 _
      simp only [Nat.zero_add, List.nil_append] at ha1
      rw [Nat.zero_add]
      have HA1 := Lib.hid ha1
      have HB1 : Hid (Below w.heap.size w w1) := ((Below.refl _ w).alloc (Nat.le_refl _) _).trans hb1
      clear ha1 hb1 hc1 hm1
      go_wp2_with (at_builtin; refine halt_ ?_)
      refine unhalt ?_
      refine wpList_append_apd (base := w.heap.size) (size := 1) _ rfl (.tmp 38) (.tmp 40) 58 rfl 9 i0 _ 16 Tryz.underlying58 Hi.out Hz0.out Hz1.out Hz2.out rfl (by decide) A1 k c1 (strs (l.take k)) rfl ?ow2y (w1.heap.size + 1) _ 1 _ [.string s] rfl ?hs2y (by simp [Value.oneCell']) ?b4y ?b5y ?b6y ?_
      case ow2y => exact HA1.out.below ((Below.refl _ w1).alloc (Nat.le_refl _) _)
      case hs2y => exact ⟨rfl, fun _ => ⟨w1.heap.size, 0, rfl, Nat.lt_succ_self _, fun j u hu => by have := new_cell w1 9 s j u hu; rwa [Addr.add_lit] at this⟩⟩
      case b4y => unfold maxLen; omega
      case b5y => omega
      case b6y => have := HB1.out.size; simp; omega
      intro A2 c2 w2 ha2 hb2 hc2 hm2 _
      have HA2 := Lib.hid ha2
      have HB2 : Hid (Below w.heap.size w w2) := (HB1.out.alloc HB1.out.size _).trans hb2
      clear ha2 hb2 hc2 hm2
      go_wp2_with (at_builtin; refine halt_ ?_)
      refine unhalt ?_
      refine wpList_append_apd (base := w.heap.size) (size := 1) _ rfl (.tmp 42) (.tmp 45) 58 rfl 9 i0 _ 16 Tryz.underlying58 Hi.out Hz0.out Hz1.out Hz2.out rfl (by decide) A2 (k + 1) c2 (strs (l.take k) ++ [.string s]) rfl HA2.out B Ak (n - k) (c - k) (strs (l.drop k)) rfl ?hs3y (strs_one _) ?b7y ?b8y ?b9y ?_
      case hs3y => rw [strs_drop]; have := HAk.out w2 B _ (H0.out.below HB2.out hB); rwa [Nat.mul_one] at this
      case b7y => unfold maxLen; omega
      case b8y => omega
      case b9y => exact HB2.out.size
      intro A3 c3 w3 ha3 hb3 hc3 hm3 _
      have HE : Hid (insS l s = l.take k ++ [s] ++ l.drop k) := by
        have := insS_new (l := l) (s := s) (by rw [HP.out]; exact HNE.out)
        rw [HP.out] at this; exact this
      have HEL : Hid ((insS l s).length = k + 1 + (n - k)) := by
        show _ = _
        rw [HE.out]; simp [HL.out]; omega
      have HS3 : Hid (Sl w3 w3.heap.size 1 A3 (insS l s).length (strs (insS l s))) := by
        show Sl _ _ _ _ _ _
        rw [HEL.out, HE.out, strs_app, strs_app]; exact ha3.sl
      have HB3 : Hid (Below w.heap.size w w3) := HB2.out.trans hb3
      have HFR := Lib.hid (ha3.fresh (by omega))
      clear ha3 hb3
      go_wp2
      go_ret
      rw [← HEL.out] at hc3 ⊢
      exact ⟨A3, c3, rfl, HS3.out, hc3, hm3, HB3.out, fun _ => HFR.out⟩
end Go.Proofs.YtiphbincnnppdaaGreatDoor

namespace Go.Proofs.YtiphbincnnppdaaGreatDoor
open Go.RowKit Go.Maps

def slen : Value → Nat
  | .slice _ n _ => n
  | _ => 0
/-- a search whose met labels are kept ascending -/
def SrA (ts : List Tg) (s : ByteArray) (out todo : List ByteArray) : Prop := Asc out ∧ ∃ met, Srch (nxT ts) s met todo ∧ ∀ x, x ∈ out ↔ x ∈ met
def LkA (ts : List Tg) (s : ByteArray) (out todo : List ByteArray) (p : ByteArray) (ys : List ByteArray) : Prop := Asc out ∧ ∃ met, Look (nxT ts) s met todo p ys ∧ ∀ x, x ∈ out ↔ x ∈ met
theorem SrA.start (ts : List Tg) (s : ByteArray) : SrA ts s [] [s] := ⟨List.Pairwise.nil, [], Srch.start _ _, fun _ => Iff.rfl⟩
theorem SrA.end_ {ts : List Tg} {s : ByteArray} {out : List ByteArray} (h : SrA ts s out []) (x : ByteArray) : x ∈ out ↔ Rch (nxT ts) s x := by
  obtain ⟨_, met, h1, h2⟩ := h
  exact (h2 x).trans (h1.end_ x)
theorem SrA.len {ts : List Tg} {s : ByteArray} {out todo : List ByteArray} (h : SrA ts s out todo) : out.length ≤ ts.length := by
  obtain ⟨h0, met, h1, h2⟩ := h
  have := nodup_len out (ts.map Tg.lab) h0.nodup (fun x hx => (isT_iff ts x).1 (rch_isT (h1.sound x ((h2 x).1 hx))))
  rwa [List.length_map] at this
theorem LkA.len {ts : List Tg} {s p : ByteArray} {out todo ys : List ByteArray} (h : LkA ts s out todo p ys) : out.length ≤ ts.length := by
  obtain ⟨h0, met, h1, h2⟩ := h
  have := nodup_len out (ts.map Tg.lab) h0.nodup (fun x hx => (isT_iff ts x).1 (rch_isT (h1.sound x ((h2 x).1 hx))))
  rwa [List.length_map] at this
theorem SrA.look {ts : List Tg} {s p : ByteArray} {out todo : List ByteArray} (h : SrA ts s out (p :: todo)) : LkA ts s out todo p (nxT ts p) := by
  obtain ⟨h0, met, h1, h2⟩ := h
  exact ⟨h0, met, h1.look, h2⟩
theorem LkA.close {ts : List Tg} {s p : ByteArray} {out todo : List ByteArray} (h : LkA ts s out todo p []) : SrA ts s out todo := by
  obtain ⟨h0, met, h1, h2⟩ := h
  exact ⟨h0, met, h1.close, h2⟩
theorem LkA.skip {ts : List Tg} {s p y : ByteArray} {out todo ys : List ByteArray} (h : LkA ts s out todo p (y :: ys)) (hy : y ∈ out) : LkA ts s out todo p ys := by
  obtain ⟨h0, met, h1, h2⟩ := h
  exact ⟨h0, met, h1.skip ((h2 y).1 hy), h2⟩
theorem LkA.take {ts : List Tg} {s p y : ByteArray} {out todo ys : List ByteArray} (h : LkA ts s out todo p (y :: ys)) (hy : y ∉ out) : LkA ts s (insS out y) (todo ++ [y]) p ys := by
  obtain ⟨h0, met, h1, h2⟩ := h
  refine ⟨asc_insS y h0, met ++ [y], h1.take (fun hm => hy ((h2 y).2 hm)), fun x => ?_⟩
  rw [mem_insS, List.mem_append, List.mem_singleton, h2 x]
theorem insS_len {l : List ByteArray} {s : ByteArray} (h : s ∉ l) : (insS l s).length = l.length + 1 := by
  rw [insS_new (fun e => h (List.mem_of_getElem? e))]
  have := posS_le l s
  simp; omega
theorem nxT_some {ts : List Tg} {p : ByteArray} {t : Tg} (h : findT ts p = some t) : nxT ts p = t.deps.filter (isT ts) := by unfold nxT; rw [h]
theorem nxT_no {ts : List Tg} {p : ByteArray} (h : findT ts p = none) : nxT ts p = [] := by unfold nxT; rw [h]
theorem drop_get {l : List ByteArray} {k : Nat} {x : ByteArray} (h : l[k]? = some x) : l.drop k = x :: l.drop (k + 1) := by
  have := List.getElem?_eq_some_iff.1 h
  rw [← this.2, List.getElem_cons_drop]

set_option maxRecDepth 100000 in
set_option maxHeartbeats 4000000 in
theorem rreach_any (A : Option Addr) (n c B : Nat) (ts : List Tg) (lab : ByteArray) (w : World) (h0 : Sl w B 4 A n (flat tgC ts)) (hok : ∀ t ∈ ts, TgOk w B t) (hB : B ≤ w.heap.size) (hn : n ≤ 1000) :
    Calls Tryz.prog 80 #[.slice A n c, .string lab] w fun e w' => ∃ A' c' l, e = .returned (.slice A' l.length c') ∧ Sl w' w'.heap.size 1 A' l.length (strs l) ∧ l.length ≤ c' ∧ c' ≤ maxLen ∧ Below w.heap.size w w' ∧ Asc l ∧ l.length ≤ n ∧ ∀ x, x ∈ l ↔ Rch (nxT ts) lab x := by
  have HL := Lib.hid (h0.len tgC_len (by omega))
  have H0 := Lib.hid h0; have HOK := Lib.hid hok
  clear h0 hok
  obtain ⟨i0, hi, hz0, hz1, hz2⟩ := info_parts infoStr
  have Hi := Lib.hid hi; have Hz0 := Lib.hid hz0; have Hz1 := Lib.hid hz1; have Hz2 := Lib.hid hz2
  clear hi hz0 hz1 hz2
  go_enter Tryz.func80, Tryz.ntmps80
  go_wp2
  go_loopw [5, 6] (fun q5 q6 wr => ∃ A5 c5 A6 c6 out todo, q5 = .slice A5 out.length c5 ∧ q6 = .slice A6 todo.length c6 ∧ Hid (Sl wr wr.heap.size 1 A5 out.length (strs out)) ∧ Hid (Sl wr wr.heap.size 1 A6 todo.length (strs todo)) ∧ out.length ≤ c5 ∧ Hid (c5 ≤ maxLen) ∧ todo.length ≤ c6 ∧ Hid (c6 ≤ maxLen) ∧ Hid (SrA ts lab out todo) ∧ 2 * (n - out.length) + todo.length ≤ 2 * n + 1 ∧ Hid (Below w.heap.size w wr)) (fun q5 q6 _ => 2 * (n - slen q5) + slen q6)
  case atStart =>
    refine ⟨_, 0, _, 1, [], [lab], rfl, rfl, Sl.nil _ _ _ _, ?_, Nat.le_refl _, Nat.zero_le _, Nat.le_refl _, ?_, SrA.start _ _, by simp, ((Below.refl _ w).alloc (Nat.le_refl _) _).alloc (by simp) _⟩
    · refine ⟨rfl, fun _ => ⟨w.heap.size + 1, 0, rfl, by simp, fun j u hu => ?_⟩⟩
      have := new_cell (w.alloc (.cells #[] 9)) 9 lab j u hu
      rw [World.size_alloc, Addr.add_lit] at this; exact this
    · show 1 ≤ maxLen; unfold maxLen; omega
  case round =>
    obtain ⟨A5, c5, A6, c6, out, todo, rfl, rfl, hS5, hS6, hc5, hm5, hc6, hm6, hSr, hMz, hBel⟩ := hrel
    cases todo with
    | nil =>
      have HE := Lib.hid hSr.out.end_
      have HAs := Lib.hid hSr.out.1
      have HLn := Lib.hid hSr.out.len
      simp only [List.length_nil] at *
      go_wp2
      go_ret
      exact ⟨A5, c5, out, rfl, hS5.out, hc5, hm5.out, hBel.out, HAs.out, by rw [← HL.out]; exact HLn.out, HE.out⟩
    | cons p rest =>
      obtain ⟨b6, o6, p', rfl, hb6, hp', y6⟩ := hS6.out.str_at (k := 0) (by simp)
      simp at hp'
      subst hp'
      simp only [List.length_cons, Nat.add_zero] at *
      have hgt : (0 : Int) < ((rest.length + 1 : Nat) : Int) := by omega
      have hgt' : (0 : Int) < (rest.length : Int) + 1 := by omega
      obtain ⟨Ak, hAr, hAk⟩ := run_slice_from (P := Tryz.prog) 58 i0 Tryz.underlying58 Hi.out Hz1.out (some ⟨b6, o6, none⟩) (rest.length + 1) c6 1 (by omega) hc6
      have hAr' : ∀ w : World, (Instr.sliceAt 58 (.slice (some ⟨b6, o6, none⟩) (rest.length + 1) c6) (some (.int .i64 1)) none none).run Tryz.prog w = .ok (.slice Ak rest.length (c6 - 1)) w := hAr
      have HS6 : Hid (Sl wr wr.heap.size 1 Ak rest.length (strs rest)) := by
        have := hAk wr wr.heap.size _ hS6.out
        simpa [strs, Hid] using this
      have HLK := Lib.hid hSr.out.look
      have HFD := Lib.hid (rfind_any A n c B ts p wr (H0.out.below hBel.out hB) (by omega))
      clear hAk hAr hS6 hSr
      cases hf : findT ts p with
      | none =>
        have hp := posI_none hf
        rw [nxT_no hf] at HLK
        have HSR := Lib.hid HLK.out.close
        rw [hp] at HFD
        clear hf hp
        go_wp2_with (go_at_call 57; refine HFD.out.mono ?_; rintro e w1 ⟨rfl, rfl⟩)
        go_loopw [5, 6, 8] (fun q5 q6 q8 wi => q5 = .slice A5 out.length c5 ∧ q6 = .slice Ak rest.length (c6 - 1) ∧ q8 = .int .i64 0 ∧ wi = wr) (fun _ _ _ _ => 0)
        case atStart => exact ⟨rfl, rfl, rfl, rfl⟩
        case round =>
          obtain ⟨rfl, rfl, rfl, rfl⟩ := hrel
          go_wp2
          go_roundw
          case rel => exact ⟨A5, c5, Ak, c6 - 1, out, rest, rfl, rfl, hS5.out, HS6.out, hc5, hm5.out, by omega, Nat.le_trans (Nat.sub_le _ _) hm6.out, HSR.out, by omega, hBel.out⟩
          case measure => simp only [slen]; omega
      | some t =>
        obtain ⟨ki, hki, hti⟩ := posI_some hf
        have htm := List.mem_of_getElem? hti
        rw [nxT_some hf] at HLK
        rw [hki] at HFD
        have hkn : ki < n := by have := (List.getElem?_eq_some_iff.1 hti).1; rw [HL.out] at this; exact this
        have HTO := Lib.hid (HOK.out t htm)
        have HTI := Lib.hid hti
        have hdl : t.deps.length = t.dn := HTO.out.dlen
        have hdnm : t.dn ≤ 9223372036854775807 := by have h1 := HTO.out.dle; have h2 := HTO.out.dmax; unfold maxLen at h2; omega
        clear hf hki hti htm
        go_wp2_with (go_at_call 57; refine HFD.out.mono ?_; rintro e w1 ⟨rfl, rfl⟩)
        go_loopw [5, 6, 8] (fun q5 q6 q8 wi => ∃ (j : Nat) (A7 : Option Addr) (c7 : Nat) (A8 : Option Addr) (c8 : Nat) (out' todo' : List ByteArray), j ≤ t.dn ∧ q8 = .int .i64 j ∧ q5 = .slice A7 out'.length c7 ∧ q6 = .slice A8 todo'.length c8 ∧ Hid (Sl wi wi.heap.size 1 A7 out'.length (strs out')) ∧ Hid (Sl wi wi.heap.size 1 A8 todo'.length (strs todo')) ∧ out'.length ≤ c7 ∧ Hid (c7 ≤ maxLen) ∧ todo'.length ≤ c8 ∧ Hid (c8 ≤ maxLen) ∧ Hid (LkA ts lab out' todo' p ((t.deps.drop j).filter (isT ts))) ∧ 2 * (n - out'.length) + todo'.length ≤ 2 * (n - out.length) + rest.length ∧ Hid (Below w.heap.size w wi)) (fun _ _ q8 _ => t.dn - (intOf q8).toNat)
        case atStart => exact ⟨0, A5, c5, Ak, c6 - 1, out, rest, Nat.zero_le _, rfl, rfl, rfl, hS5.out, HS6.out, hc5, hm5.out, by omega, Nat.le_trans (Nat.sub_le _ _) hm6.out, HLK.out, Nat.le_refl _, hBel.out⟩
        case round =>
          obtain ⟨j, A7, c7, A8, c8, out', todo', hj, rfl, rfl, rfl, hS7, hS8, hc7, hm7, hc8, hm8, hLk, hM8, hBi⟩ := hrel
          obtain ⟨b, off, t', rfl, hbB, ht', y0, y1, y2, y3⟩ := (H0.out.below hBi.out hB).tg hkn
          rw [HTI.out] at ht'
          cases ht'
          have hkz : (ki : Int) < (n : Int) := by omega
          have hwi := hBi.out.size
          by_cases hlt : j < t.dn
          · obtain ⟨bd, od, d, hdA, hbd, hd, yd⟩ := (HTO.out.d.below hBi.out hB).str_at hlt
            have hjz : (j : Int) < (t.dn : Int) := by omega
            rw [hdA] at y2
            have HDG := Lib.hid (drop_get hd)
            have hds : d.size ≤ maxLen := HTO.out.ds d (List.mem_of_getElem? hd)
            have HFD2 := Lib.hid (rfind_any (some ⟨b, off, none⟩) n c B ts d wr (H0.out.below hBi.out hB) (by omega))
            clear hd hdA
            cases hs : isT ts d with
            | false =>
              have hp2 : posI ts d = -1 := posI_neg ts d (by rw [posI_isT] at hs; simpa using hs)
              rw [hp2] at HFD2
              have HLK2 : Hid (LkA ts lab out' todo' p ((t.deps.drop (j + 1)).filter (isT ts))) := by
                have := hLk.out
                rw [HDG.out, List.filter_cons, if_neg (by rw [hs]; simp)] at this
                exact this
              clear hs hp2
              go_wp2_with (go_at_call 57; refine HFD2.out.mono ?_; rintro e w1 ⟨rfl, rfl⟩)
              go_roundw
              case rel => exact ⟨j + 1, A7, c7, A8, c8, out', todo', by omega, by go_num, rfl, rfl, hS7.out, hS8.out, hc7, hm7.out, hc8, hm8.out, HLK2.out, hM8, hBi.out⟩
              case measure => simp [intOf]; omega
            | true =>
              obtain ⟨kd, hkd⟩ : ∃ kd : Nat, posI ts d = kd := by
                have : 0 ≤ posI ts d := by rw [posI_isT] at hs; simpa using hs
                exact ⟨(posI ts d).toNat, by omega⟩
              rw [hkd] at HFD2
              have HLK1 : Hid (LkA ts lab out' todo' p (d :: (t.deps.drop (j + 1)).filter (isT ts))) := by
                have := hLk.out
                rw [HDG.out, List.filter_cons, if_pos hs] at this
                exact this
              have hol : out'.length ≤ n := by have := hLk.out.len; rw [HL.out] at this; exact this
              have HHS := Lib.hid (rhas_any A7 out'.length out'.length c7 wr.heap.size out' d wr hS7.out (Nat.le_refl _) (by omega))
              rw [List.take_length] at HHS
              clear hs hkd
              cases hm : memB out' d with
              | true =>
                have HLK2 := Lib.hid (HLK1.out.skip ((memB_iff _ _).1 hm))
                rw [hm] at HHS
                clear hm
                go_wp2_with (first
                  | (go_at_call 57; refine HFD2.out.mono ?_; rintro e w1 ⟨rfl, rfl⟩)
                  | (go_at_call 110; refine HHS.out.mono ?_; rintro e w1 ⟨rfl, rfl⟩))
                go_roundw
                case rel => exact ⟨j + 1, A7, c7, A8, c8, out', todo', by omega, by go_num, rfl, rfl, hS7.out, hS8.out, hc7, hm7.out, hc8, hm8.out, HLK2.out, hM8, hBi.out⟩
                case measure => simp [intOf]; omega
              | false =>
                have hnm : d ∉ out' := fun h => by rw [(memB_iff _ _).2 h] at hm; cases hm
                have HLK2 := Lib.hid (HLK1.out.take hnm)
                have HIL := Lib.hid (insS_len hnm)
                have hol2 : out'.length + 1 ≤ n := by have := HLK2.out.len; rw [HIL.out, HL.out] at this; exact this
                rw [hm] at HHS
                have HIN := Lib.hid (rinsert_any A7 out'.length c7 wr.heap.size out' d wr hS7.out (Nat.le_refl _) hc7 hm7.out (by omega))
                clear hm hnm
                go_wp2_with (first
                  | (go_at_call 57; refine HFD2.out.mono ?_; rintro e w1 ⟨rfl, rfl⟩)
                  | (go_at_call 110; refine HHS.out.mono ?_; rintro e w1 ⟨rfl, rfl⟩)
                  | (go_at_call 111; refine HIN.out.mono ?_; rintro e w2 ⟨A9, c9, rfl, hS9, hc9, hm9, hb9, _⟩; refine halt_ ?_))
                refine unhalt ?_
                have HS9 := Lib.hid hS9; have HM9 := Lib.hid hm9; have HB9 := Lib.hid hb9
                have HS8 : Hid (Sl w2 w2.heap.size 1 A8 todo'.length (strs todo')) := (hS8.out.below hb9 (Nat.le_refl _)).more hb9.size
                have HBW : Hid (Below w.heap.size w w2) := hBi.out.trans (hb9.mono hwi)
                clear hS9 hm9 hb9 hS7 hS8
                have htl : todo'.length ≤ 4000 := by omega
                go_wp2_with (at_builtin; refine halt_ ?_)
                refine unhalt ?_
                refine wpList_append_apd (base := w2.heap.size) (size := 1) _ rfl (.tmp 58) (.tmp 59) 58 rfl 9 i0 _ 16 Tryz.underlying58 Hi.out Hz0.out Hz1.out Hz2.out rfl (by decide) _ 0 0 [] rfl (.inr ⟨rfl, rfl, rfl⟩) w2.heap.size A8 todo'.length c8 (strs todo') rfl ?hs1 (strs_one _) ?b1 ?b2 ?b3 ?_
                case hs1 => exact HS8.out.alloc (Nat.le_refl _) _
                case b1 => unfold maxLen; omega
                case b2 => omega
                case b3 => simp
                intro A1 c1 w3 ha1 hb1 hc1 hm1 _
                simp only [Nat.zero_add, List.nil_append] at ha1
                rw [Nat.zero_add]
                have HA1 := Lib.hid ha1
                have HB1 : Hid (Below w2.heap.size w2 w3) := ((Below.refl _ w2).alloc (Nat.le_refl _) _).trans hb1
                clear ha1 hb1 hc1 hm1
                go_wp2_with (at_builtin; refine halt_ ?_)
                refine unhalt ?_
                refine wpList_append_apd (base := w2.heap.size) (size := 1) _ rfl (.tmp 60) (.tmp 62) 58 rfl 9 i0 _ 16 Tryz.underlying58 Hi.out Hz0.out Hz1.out Hz2.out rfl (by decide) A1 todo'.length c1 (strs todo') rfl ?ow2 (w3.heap.size + 1) _ 1 _ [.string d] rfl ?hs2 (by simp [Value.oneCell']) ?b4 ?b5 ?b6 ?_
                case ow2 => exact HA1.out.below ((Below.refl _ w3).alloc (Nat.le_refl _) _)
                case hs2 => exact ⟨rfl, fun _ => ⟨w3.heap.size, 0, rfl, Nat.lt_succ_self _, fun j u hu => by have := new_cell w3 9 d j u hu; rwa [Addr.add_lit] at this⟩⟩
                case b4 => unfold maxLen; omega
                case b5 => omega
                case b6 => have := HB1.out.size; simp; omega
                intro A2 c2 w4 ha2 hb2 hc2 hm2 _
                have HA2 : Hid (Sl w4 w4.heap.size 1 A2 (todo' ++ [d]).length (strs (todo' ++ [d]))) := by
                  show Sl _ _ _ _ _ _
                  rw [strs_snoc, List.length_append]; exact ha2.sl
                have HM2 := Lib.hid hm2
                have HB2 : Hid (Below w2.heap.size w2 w4) := (HB1.out.alloc HB1.out.size _).trans hb2
                have hc2' : (todo' ++ [d]).length ≤ c2 := by rw [List.length_append]; exact hc2
                have htl2 : (todo' ++ [d]).length = todo'.length + 1 := by simp
                have HS9' : Hid (Sl w4 w4.heap.size 1 A9 (insS out' d).length (strs (insS out' d))) := (HS9.out.below HB2.out (Nat.le_refl _)).more HB2.out.size
                clear ha2 hb2 hm2 HS9 HS8
                go_wp2
                go_roundw
                case rel => exact ⟨j + 1, A9, c9, A2, c2, insS out' d, todo' ++ [d], by omega, by go_num, rfl, by rw [htl2], HS9'.out, HA2.out, hc9, HM9.out, hc2', HM2.out, HLK2.out, by rw [HIL.out]; omega, HBW.out.trans (HB2.out.mono HBW.out.size)⟩
                case measure => simp [intOf]; omega
          · have hjz : ¬ (j : Int) < (t.dn : Int) := by omega
            have HSR : Hid (SrA ts lab out' todo') := by
              have := hLk.out
              rw [List.drop_of_length_le (by omega)] at this
              exact this.close
            go_wp2
            go_roundw
            case rel => exact ⟨A7, c7, A8, c8, out', todo', rfl, rfl, hS7.out, hS8.out, hc7, hm7.out, hc8, hm8.out, HSR.out, by omega, hBi.out⟩
            case measure => simp only [slen]; omega
end Go.Proofs.YtiphbincnnppdaaGreatDoor

namespace Go.Proofs.YtiphbincnnppdaaGreatDoor
open Go.RowKit Go.Maps

def StpR (ts : List Tg) (a b : ByteArray) (r : Int) : Prop := (r = -1 ∧ ¬ Rch (nxT ts) a b) ∨ ∃ k : Nat, r = (k : Int) + 1 ∧ Dst (nxT ts) k a b
def LvA (ts : List Tg) (a b : ByteArray) (m : Nat) (seen now : List ByteArray) : Prop := Asc seen ∧ Lvl (nxT ts) a b m seen now
def MdA (ts : List Tg) (a b : ByteArray) (m s0 : Nat) (seen next : List ByteArray) (p : ByteArray) (ys xs : List ByteArray) : Prop := Asc seen ∧ Mid (nxT ts) a b m seen next p ys xs ∧ seen.length = s0 + next.length
/-- between two labels of a level -/
def MjA (ts : List Tg) (a b : ByteArray) (m s0 : Nat) (seen next : List ByteArray) (now : List ByteArray) (j : Nat) : Prop :=
  (j = 0 ∧ LvA ts a b m seen now ∧ next = [] ∧ seen.length = s0) ∨ (0 < j ∧ ∃ p, MdA ts a b m s0 seen next p [] (now.drop j))
theorem asc_len {ts : List Tg} {seen : List ByteArray} {a : ByteArray} (h : Asc seen) (hs : ∀ x ∈ seen, Rch (nxT ts) a x) : seen.length ≤ ts.length := by
  have := nodup_len seen (ts.map Tg.lab) h.nodup (fun x hx => (isT_iff ts x).1 (rch_isT (hs x hx)))
  rwa [List.length_map] at this
theorem MjA.enter {ts : List Tg} {a b x : ByteArray} {m s0 j : Nat} {seen next now : List ByteArray} (h : MjA ts a b m s0 seen next now j) (hx : now[j]? = some x) : MdA ts a b m s0 seen next x (nxT ts x) (now.drop (j + 1)) := by
  rcases h with ⟨rfl, ⟨h1, h2⟩, rfl, h3⟩ | ⟨_, p, h1, h2, h3⟩
  · have e := drop_get hx
    rw [List.drop_zero] at e
    rw [e] at h2
    exact ⟨h1, h2.mid, by simpa using h3⟩
  · rw [drop_get hx] at h2
    exact ⟨h1, h2.on, h3⟩
theorem MdA.leave {ts : List Tg} {a b p : ByteArray} {m s0 j : Nat} {seen next now : List ByteArray} (h : MdA ts a b m s0 seen next p [] (now.drop (j + 1))) : MjA ts a b m s0 seen next now (j + 1) := .inr ⟨by omega, p, h⟩
theorem MjA.close {ts : List Tg} {a b : ByteArray} {m s0 j : Nat} {seen next now : List ByteArray} (h : MjA ts a b m s0 seen next now j) (hj : now.length ≤ j) (hn : 0 < now.length) : LvA ts a b (m + 1) seen next ∧ seen.length = s0 + next.length := by
  rcases h with ⟨rfl, _⟩ | ⟨_, p, h1, h2, h3⟩
  · omega
  · rw [List.drop_of_length_le hj] at h2
    exact ⟨⟨h1, h2.close⟩, h3⟩
theorem MdA.skip {ts : List Tg} {a b p y : ByteArray} {m s0 : Nat} {seen next ys xs : List ByteArray} (h : MdA ts a b m s0 seen next p (y :: ys) xs) (hy : y ∈ seen) : MdA ts a b m s0 seen next p ys xs := ⟨h.1, h.2.1.skip hy, h.2.2⟩
theorem MdA.take {ts : List Tg} {a b p y : ByteArray} {m s0 : Nat} {seen next ys xs : List ByteArray} (h : MdA ts a b m s0 seen next p (y :: ys) xs) (hb : y ≠ b) (hy : y ∉ seen) : MdA ts a b m s0 (insS seen y) (next ++ [y]) p ys xs :=
  ⟨asc_insS y h.1, h.2.1.take hb hy (fun x => mem_insS seen y x), by rw [insS_len hy, h.2.2, List.length_append]; simp; omega⟩
theorem MdA.len {ts : List Tg} {a b p : ByteArray} {m s0 : Nat} {seen next ys xs : List ByteArray} (h : MdA ts a b m s0 seen next p ys xs) : seen.length ≤ ts.length := asc_len h.1 h.2.1.sound

/-- a slice of n elements does not lie in the block of another one -/
def Away (n : Nat) (A A' : Option Addr) : Prop := 0 < n → ∀ p q, A = some p → A' = some q → p.block ≠ q.block
theorem Sl.away {w w' : World} {B size n m c : Nat} {A A' : Option Addr} {xs : List Value} (h : Sl w B size A n xs) (hw : Away n A A') (hg : w.grownBy w' (Value.slice A' m c).ownBlock) (hB : B ≤ w.heap.size) : Sl w' B size A n xs := by
  refine ⟨h.1, fun hn => ?_⟩
  obtain ⟨b, off, rfl, hb, hc⟩ := h.2 hn
  refine ⟨b, off, rfl, hb, fun j u hu => (World.cell?_of_block (hg.block b (by omega) (fun e => ?_))).trans (hc j u hu)⟩
  cases A' with
  | none => cases e
  | some q =>
    have e' : b = q.block := by injection e
    exact hw hn _ q rfl rfl e'
theorem Away.new {w : World} {B size n g : Nat} {A : Option Addr} {xs : List Value} (h : Sl w B size A n xs) (hg : B ≤ g) : Away n A (some ⟨g, 0, none⟩) := fun hn p q hp hq => by
  obtain ⟨b, off, e, hb, _⟩ := h.2 hn
  rw [hp] at e; cases e; cases hq
  show b ≠ g; omega
theorem Away.on {w : World} {B size n g m c : Nat} {A A' : Option Addr} {xs : List Value} (ha : Away n A A') (h : Sl w B size A n xs) (hg : (Value.slice A' m c).ownBlock = some g ∨ g = B) : Away n A (some ⟨g, 0, none⟩) := fun hn p q hp hq => by
  rcases hg with hg | hg
  · cases A' with
    | none => cases hg
    | some q' =>
      have e : q'.block = g := by injection hg
      cases hq
      have := ha hn p q' hp rfl
      show p.block ≠ g
      rw [← e]; exact this
  · exact Away.new h (by omega) hn p q hp hq
theorem own_lt {w : World} {base size n c : Nat} {e : TypeId} {A : Option Addr} {xs : List Value} (h : w.ownsRow base e size (.slice A n c) n xs) : ∀ q, A = some q → q.block < w.heap.size := fun q hq => by
  rcases h.2 with ⟨hv, _⟩ | ⟨g, cap, cur, hv, _, h2, _⟩
  · simp only [Value.slice.injEq] at hv; rw [hv.1] at hq; cases hq
  · simp only [Value.slice.injEq] at hv; rw [hv.1] at hq; cases hq; exact (Array.getElem?_eq_some_iff.1 h2).1
theorem own_none (w : World) (e : TypeId) {base : Nat} (hb : base ≤ w.heap.size) : (w.alloc (.cells #[] e)).ownsRow base e 1 (.slice (some ⟨w.heap.size, 0, none⟩) 0 0) 0 [] :=
  ⟨rfl, .inr ⟨w.heap.size, 0, #[], rfl, hb, World.alloc_heap_new w _, Nat.le_refl _, Nat.zero_le _, rfl, rfl⟩⟩

set_option maxRecDepth 100000 in
set_option maxHeartbeats 8000000 in
theorem rsteps_any (A : Option Addr) (n c B : Nat) (ts : List Tg) (fr to : ByteArray) (w : World) (h0 : Sl w B 4 A n (flat tgC ts)) (hok : ∀ t ∈ ts, TgOk w B t) (hB : B ≤ w.heap.size) (hn : n ≤ 1000) :
    Calls Tryz.prog 109 #[.slice A n c, .string fr, .string to] w fun e w' => ∃ r, e = .returned (.int .i64 r) ∧ StpR ts fr to r ∧ r ≤ 2 * (n : Int) + 2 ∧ Below w.heap.size w w' := by
  have HL := Lib.hid (h0.len tgC_len (by omega))
  have H0 := Lib.hid h0; have HOK := Lib.hid hok
  clear h0 hok
  obtain ⟨i0, hi, hz0, hz1, hz2⟩ := info_parts infoStr
  have Hi := Lib.hid hi; have Hz0 := Lib.hid hz0; have Hz1 := Lib.hid hz1; have Hz2 := Lib.hid hz2
  clear hi hz0 hz1 hz2
  go_enter Tryz.func109, Tryz.ntmps109
  go_wp2
  go_loopw [7, 8, 9] (fun q7 q8 q9 wr => ∃ (m : Nat) (A7 : Option Addr) (c7 : Nat) (A8 : Option Addr) (c8 : Nat) (seen now : List ByteArray), q9 = .int .i64 ((m : Int) + 1) ∧ q7 = .slice A7 seen.length c7 ∧ q8 = .slice A8 now.length c8 ∧ Hid (Sl wr wr.heap.size 1 A7 seen.length (strs seen)) ∧ Hid (Sl wr wr.heap.size 1 A8 now.length (strs now)) ∧ seen.length ≤ c7 ∧ Hid (c7 ≤ maxLen) ∧ Hid (LvA ts fr to m seen now) ∧ m + (2 * (n - seen.length) + min now.length 1) ≤ 2 * n + 1 ∧ now.length ≤ 1000 ∧ Hid (Below w.heap.size w wr)) (fun q7 q8 _ _ => 2 * (n - slen q7) + min (slen q8) 1)
  case atStart =>
    refine ⟨0, _, 0, _, 1, [], [fr], rfl, rfl, rfl, Sl.nil _ _ _ _, ?_, Nat.le_refl _, Nat.zero_le _, ⟨List.Pairwise.nil, Lvl.start _ _ _⟩, by simp, by simp, ((Below.refl _ w).alloc (Nat.le_refl _) _).alloc (by simp) _⟩
    refine ⟨rfl, fun _ => ⟨w.heap.size + 1, 0, rfl, by simp, fun j u hu => ?_⟩⟩
    have := new_cell (w.alloc (.cells #[] 9)) 9 fr j u hu
    rw [World.size_alloc, Addr.add_lit] at this; exact this
  case round =>
    obtain ⟨m, A7, c7, A8, c8, seen, now, rfl, rfl, rfl, hS7, hS8, hc7, hm7, hLv, hM, hnl, hBel⟩ := hrel
    by_cases hpos : 0 < now.length
    · have hpz : (0 : Int) < (now.length : Int) := by omega
      have hwr := hBel.out.size
      have hsl : seen.length ≤ n := by have := asc_len hLv.out.1 hLv.out.2.sound; rw [HL.out] at this; exact this
      obtain ⟨W1, hW1⟩ : ∃ W1, wr.alloc (.cells #[] 9) = W1 := ⟨_, rfl⟩
      have HBa : Hid (Below w.heap.size w W1) := by rw [← hW1]; exact hBel.out.alloc hwr _
      have HSa7 : Hid (Sl W1 W1.heap.size 1 A7 seen.length (strs seen)) := by rw [← hW1]; exact (hS7.out.alloc (Nat.le_refl _) _).more (by simp)
      have HSa8 : Hid (Sl W1 W1.heap.size 1 A8 now.length (strs now)) := by rw [← hW1]; exact (hS8.out.alloc (Nat.le_refl _) _).more (by simp)
      have HON : Hid (W1.ownsRow w.heap.size 9 1 (.slice (some ⟨wr.heap.size, 0, none⟩) 0 0) 0 (strs [])) := by rw [← hW1]; exact own_none wr _ hwr
      have HAW7 : Hid (Away seen.length A7 (some ⟨wr.heap.size, 0, none⟩)) := Away.new hS7.out (Nat.le_refl _)
      have HAW8 : Hid (Away now.length A8 (some ⟨wr.heap.size, 0, none⟩)) := Away.new hS8.out (Nat.le_refl _)
      clear hS7 hS8
      go_wp2
      go_loopw [7, 10, 11] (fun q7 q10 q11 wi => ∃ (j : Nat) (A9 : Option Addr) (c9 : Nat) (A10 : Option Addr) (c10 : Nat) (seen' next : List ByteArray), j ≤ now.length ∧ q11 = .int .i64 j ∧ q7 = .slice A9 seen'.length c9 ∧ q10 = .slice A10 next.length c10 ∧ Hid (Sl wi wi.heap.size 1 A9 seen'.length (strs seen')) ∧ seen'.length ≤ c9 ∧ Hid (c9 ≤ maxLen) ∧ Hid (wi.ownsRow w.heap.size 9 1 (.slice A10 next.length c10) next.length (strs next)) ∧ Hid (Away seen'.length A9 A10) ∧ Hid (Away now.length A8 A10) ∧ Hid (Sl wi wi.heap.size 1 A8 now.length (strs now)) ∧ Hid (MjA ts fr to m seen.length seen' next now j) ∧ next.length ≤ 1000 ∧ Hid (Below w.heap.size w wi)) (fun _ _ q11 _ => now.length - (intOf q11).toNat)
      case atStart => exact ⟨0, A7, c7, _, 0, seen, [], Nat.zero_le _, rfl, rfl, rfl, HSa7.out, hc7, hm7.out, HON.out, HAW7.out, HAW8.out, HSa8.out, .inl ⟨rfl, hLv.out, rfl, rfl⟩, by simp, HBa.out⟩
      case round =>
        obtain ⟨j, A9, c9, A10, c10, seen', next, hj, rfl, rfl, rfl, hS9, hc9, hm9, hAp, hW7, hW8, hSn, hMj, hnx, hBi⟩ := hrel
        by_cases hjl : j < now.length
        · obtain ⟨b8, o8, p, rfl, hb8, hp, y8⟩ := hSn.out.str_at hjl
          have hjz : (j : Int) < (now.length : Int) := by omega
          have HMD := Lib.hid (hMj.out.enter hp)
          have HFD := Lib.hid (rfind_any A n c B ts p wr (H0.out.below hBi.out hB) (by omega))
          clear hMj hp
          cases hf : findT ts p with
          | none =>
            have hp := posI_none hf
            rw [nxT_no hf] at HMD
            rw [hp] at HFD
            clear hf hp
            go_wp2_with (go_at_call 57; refine HFD.out.mono ?_; rintro e w1 ⟨rfl, rfl⟩)
            go_loopw [7, 10, 13] (fun q7 q10 q13 wi => q7 = .slice A9 seen'.length c9 ∧ q10 = .slice A10 next.length c10 ∧ q13 = .int .i64 0 ∧ wi = wr) (fun _ _ _ _ => 0)
            case atStart => exact ⟨rfl, rfl, rfl, rfl⟩
            case round =>
              obtain ⟨rfl, rfl, rfl, rfl⟩ := hrel
              go_wp2
              go_roundw
              case rel => exact ⟨j + 1, A9, c9, A10, c10, seen', next, by omega, by go_num, rfl, rfl, hS9.out, hc9, hm9.out, hAp.out, hW7.out, hW8.out, hSn.out, HMD.out.leave, hnx, hBi.out⟩
              case measure => simp [intOf]; omega
          | some t =>
            obtain ⟨ki, hki, hti⟩ := posI_some hf
            have htm := List.mem_of_getElem? hti
            rw [nxT_some hf] at HMD
            rw [hki] at HFD
            have hkn : ki < n := by have := (List.getElem?_eq_some_iff.1 hti).1; rw [HL.out] at this; exact this
            have HTO := Lib.hid (HOK.out t htm)
            have HTI := Lib.hid hti
            have hdl : t.deps.length = t.dn := HTO.out.dlen
            have hdnm : t.dn ≤ 9223372036854775807 := by have h1 := HTO.out.dle; have h2 := HTO.out.dmax; unfold maxLen at h2; omega
            clear hf hki hti htm
            go_wp2_with (go_at_call 57; refine HFD.out.mono ?_; rintro e w1 ⟨rfl, rfl⟩)
            go_loopw [7, 10, 13] (fun q7 q10 q13 wi => ∃ (k : Nat) (A11 : Option Addr) (c11 : Nat) (A12 : Option Addr) (c12 : Nat) (seen2 next2 : List ByteArray), k ≤ t.dn ∧ q13 = .int .i64 k ∧ q7 = .slice A11 seen2.length c11 ∧ q10 = .slice A12 next2.length c12 ∧ Hid (Sl wi wi.heap.size 1 A11 seen2.length (strs seen2)) ∧ seen2.length ≤ c11 ∧ Hid (c11 ≤ maxLen) ∧ Hid (wi.ownsRow w.heap.size 9 1 (.slice A12 next2.length c12) next2.length (strs next2)) ∧ Hid (Away seen2.length A11 A12) ∧ Hid (Away now.length (some ⟨b8, o8, none⟩) A12) ∧ Hid (Sl wi wi.heap.size 1 (some ⟨b8, o8, none⟩) now.length (strs now)) ∧ Hid (MdA ts fr to m seen.length seen2 next2 p ((t.deps.drop k).filter (isT ts)) (now.drop (j + 1))) ∧ next2.length ≤ 1000 ∧ Hid (Below w.heap.size w wi)) (fun _ _ q13 _ => t.dn - (intOf q13).toNat)
            case atStart => exact ⟨0, A9, c9, A10, c10, seen', next, Nat.zero_le _, rfl, rfl, rfl, hS9.out, hc9, hm9.out, hAp.out, hW7.out, hW8.out, hSn.out, HMD.out, hnx, hBi.out⟩
            case round =>
              obtain ⟨k, A11, c11, A12, c12, seen2, next2, hk, rfl, rfl, rfl, hS11, hc11, hm11, hAp2, hW11, hW12, hSn2, hMd, hnx2, hBk⟩ := hrel
              obtain ⟨b, off, t', rfl, hbB, ht', y0, y1, y2, y3⟩ := (H0.out.below hBk.out hB).tg hkn
              rw [HTI.out] at ht'
              cases ht'
              have hkz : (ki : Int) < (n : Int) := by omega
              have hwk := hBk.out.size
              have hsl2 : seen2.length ≤ n := by have := hMd.out.len; rw [HL.out] at this; exact this
              by_cases hlt : k < t.dn
              · obtain ⟨bd, od, d, hdA, hbd, hd, yd⟩ := (HTO.out.d.below hBk.out hB).str_at hlt
                have hkt : (k : Int) < (t.dn : Int) := by omega
                rw [hdA] at y2
                have HDG := Lib.hid (drop_get hd)
                have HFD2 := Lib.hid (rfind_any (some ⟨b, off, none⟩) n c B ts d wr (H0.out.below hBk.out hB) (by omega))
                clear hd hdA
                cases hs : isT ts d with
                | false =>
                  have hp2 : posI ts d = -1 := posI_neg ts d (by rw [posI_isT] at hs; simpa using hs)
                  rw [hp2] at HFD2
                  have HMD2 : Hid (MdA ts fr to m seen.length seen2 next2 p ((t.deps.drop (k + 1)).filter (isT ts)) (now.drop (j + 1))) := by
                    have := hMd.out
                    rw [HDG.out, List.filter_cons, if_neg (by rw [hs]; simp)] at this
                    exact this
                  clear hs hp2
                  go_wp2_with (go_at_call 57; refine HFD2.out.mono ?_; rintro e w1 ⟨rfl, rfl⟩)
                  go_roundw
                  case rel => exact ⟨k + 1, A11, c11, A12, c12, seen2, next2, by omega, by go_num, rfl, rfl, hS11.out, hc11, hm11.out, hAp2.out, hW11.out, hW12.out, hSn2.out, HMD2.out, hnx2, hBk.out⟩
                  case measure => simp [intOf]; omega
                | true =>
                  obtain ⟨kd, hkd⟩ : ∃ kd : Nat, posI ts d = kd := by
                    have : 0 ≤ posI ts d := by rw [posI_isT] at hs; simpa using hs
                    exact ⟨(posI ts d).toNat, by omega⟩
                  rw [hkd] at HFD2
                  have hkdn : ¬ (kd : Int) < 0 := by omega
                  have HMD1 : Hid (MdA ts fr to m seen.length seen2 next2 p (d :: (t.deps.drop (k + 1)).filter (isT ts)) (now.drop (j + 1))) := by
                    have := hMd.out
                    rw [HDG.out, List.filter_cons, if_pos hs] at this
                    exact this
                  have HHS := Lib.hid (rhas_any A11 seen2.length seen2.length c11 wr.heap.size seen2 d wr hS11.out (Nat.le_refl _) (by omega))
                  rw [List.take_length] at HHS
                  clear hs hkd
                  cases hm : memB seen2 d with
                  | true =>
                    have HMD2 := Lib.hid (HMD1.out.skip ((memB_iff _ _).1 hm))
                    rw [hm] at HHS
                    clear hm
                    go_wp2_with (first
                      | (go_at_call 57; refine HFD2.out.mono ?_; rintro e w1 ⟨rfl, rfl⟩)
                      | (go_at_call 110; refine HHS.out.mono ?_; rintro e w1 ⟨rfl, rfl⟩))
                    go_roundw
                    case rel => exact ⟨k + 1, A11, c11, A12, c12, seen2, next2, by omega, by go_num, rfl, rfl, hS11.out, hc11, hm11.out, hAp2.out, hW11.out, hW12.out, hSn2.out, HMD2.out, hnx2, hBk.out⟩
                    case measure => simp [intOf]; omega
                  | false =>
                    have hnm : d ∉ seen2 := fun h => by rw [(memB_iff _ _).2 h] at hm; cases hm
                    rw [hm] at HHS
                    have hst := str_dec d to
                    by_cases hdt : d = to
                    · rw [decide_eq_true hdt] at hst
                      have HF : Hid (Dst (nxT ts) m fr to) := by subst hdt; exact HMD1.out.2.1.found
                      clear hdt hm
                      go_wp2_with (first
                        | (go_at_call 57; refine HFD2.out.mono ?_; rintro e w1 ⟨rfl, rfl⟩)
                        | (go_at_call 110; refine HHS.out.mono ?_; rintro e w1 ⟨rfl, rfl⟩))
                      go_ret
                      exact ⟨_, rfl, .inr ⟨m, rfl, HF.out⟩, by omega, hBk.out⟩
                    · rw [decide_eq_false hdt] at hst
                      have HMD2 := Lib.hid (HMD1.out.take hdt hnm)
                      have HIL := Lib.hid (insS_len hnm)
                      have hol2 : seen2.length + 1 ≤ n := by have := HMD2.out.len; rw [HIL.out, HL.out] at this; exact this
                      have HIN := Lib.hid (rinsert_any A11 seen2.length c11 wr.heap.size seen2 d wr hS11.out (Nat.le_refl _) hc11 hm11.out (by omega))
                      have HNM := Lib.hid hnm
                      clear hm hnm hdt
                      go_wp2_with (first
                        | (go_at_call 57; refine HFD2.out.mono ?_; rintro e w1 ⟨rfl, rfl⟩)
                        | (go_at_call 110; refine HHS.out.mono ?_; rintro e w1 ⟨rfl, rfl⟩)
                        | (go_at_call 111; refine HIN.out.mono ?_; rintro e w2 ⟨A13, c13, rfl, hS13, hc13, hm13, hb13, hfr13⟩; refine halt_ ?_))
                      refine unhalt ?_
                      have HS13 := Lib.hid hS13; have HM13 := Lib.hid hm13
                      have HFR := Lib.hid (hfr13 HNM.out)
                      have HLT := Lib.hid (own_lt hAp2.out)
                      have HAP2 : Hid (w2.ownsRow w.heap.size 9 1 (.slice A12 next2.length c12) next2.length (strs next2)) := own_keep hAp2.out (fun k hk => hb13.block k ((hAp2.out.lt k hk).2))
                      have HSN2 : Hid (Sl w2 w2.heap.size 1 (some ⟨b8, o8, none⟩) now.length (strs now)) := (hSn2.out.below hb13 (Nat.le_refl _)).more hb13.size
                      have HBW : Hid (Below w.heap.size w w2) := hBk.out.trans (hb13.mono hwk)
                      have HW13 : Hid (Away (insS seen2 d).length A13 A12) := fun _ p q hp hq => by
                        have h1 := HFR.out p hp
                        have h2 := HLT.out q hq
                        omega
                      have hw2 := HBW.out.size
                      have hnn : seen2.length = seen.length + next2.length := hMd.out.2.2
                      clear hS13 hm13 hb13 hfr13 hS11 hAp2 hSn2 hMd
                      go_wp2_with (at_builtin; refine halt_ ?_)
                      refine unhalt ?_
                      refine wpList_append_lies _ rfl (.tmp 74) (.tmp 76) 58 rfl w.heap.size 9 i0 _ 1 16 Tryz.underlying58 Hi.out Hz0.out Hz1.out Hz2.out rfl (by decide) (.slice A12 next2.length c12) next2.length (strs next2) rfl ?ow2 ⟨w2.heap.size, 0, none⟩ 1 1 [.string d] rfl rfl ?hs2 (by simp [Value.oneCell']) (by omega) ?b4 ?b5 ?b6 (w2.heap.size + 1) (by simp) ?_
                      case ow2 => exact HAP2.out.kept (World.grownBy_alloc w2 _ none) (by cases hv : (Value.slice A12 next2.length c12).ownBlock with | none => exact .inl rfl | some k => exact .inr (by simp))
                      case hs2 => exact new_cell w2 9 d
                      case b4 => unfold maxLen; omega
                      case b5 => omega
                      case b6 => simp; omega
                      intro g14 c14 w4 ho4 hg4 hat4 _
                      have e14 : strs (next2 ++ [d]) = strs next2 ++ [.string d] := strs_snoc _ _
                      have HSa : Hid (Sl (w2.alloc (.cells #[.string d] 9)) (w2.heap.size + 1) 1 A13 (insS seen2 d).length (strs (insS seen2 d))) := (HS13.out.alloc (Nat.le_refl _) _).more (by omega)
                      have HSb : Hid (Sl (w2.alloc (.cells #[.string d] 9)) (w2.heap.size + 1) 1 (some ⟨b8, o8, none⟩) now.length (strs now)) := (HSN2.out.alloc (Nat.le_refl _) _).more (by omega)
                      have hz4 : w2.heap.size + 1 ≤ w4.heap.size := by have := hg4.size; simp at this; omega
                      have HS4 : Hid (Sl w4 w4.heap.size 1 A13 (insS seen2 d).length (strs (insS seen2 d))) := (HSa.out.away HW13.out hg4 (by simp)).more hz4
                      have HN4 : Hid (Sl w4 w4.heap.size 1 (some ⟨b8, o8, none⟩) now.length (strs now)) := (HSb.out.away hW12.out hg4 (by simp)).more hz4
                      have HW4 : Hid (Away (insS seen2 d).length A13 (some ⟨g14, 0, none⟩)) := HW13.out.on HSa.out hat4
                      have HW5 : Hid (Away now.length (some ⟨b8, o8, none⟩) (some ⟨g14, 0, none⟩)) := hW12.out.on HSb.out hat4
                      have HO4 : Hid (w4.ownsRow w.heap.size 9 1 (.slice (some ⟨g14, 0, none⟩) (next2 ++ [d]).length c14) (next2 ++ [d]).length (strs (next2 ++ [d]))) := by
                        show World.ownsRow _ _ _ _ _ _ _
                        rw [e14, List.length_append]; exact ho4
                      have HB4 : Hid (Below w.heap.size w w4) := (HBW.out.alloc hw2 _).grown hg4 (by simp; omega) (fun k hk => ownBlock_ge HAP2.out k hk)
                      have hnl4 : (next2 ++ [d]).length = next2.length + 1 := by simp
                      clear ho4 hg4 hat4 HSa HSb HS13 HSN2 HAP2
                      go_wp2
                      go_roundw
                      case rel => exact ⟨k + 1, A13, c13, _, c14, insS seen2 d, next2 ++ [d], by omega, by go_num, rfl, by rw [hnl4], HS4.out, hc13, HM13.out, HO4.out, HW4.out, HW5.out, HN4.out, HMD2.out, by omega, HB4.out⟩
                      case measure => simp [intOf]; omega
              · have hkt : ¬ (k : Int) < (t.dn : Int) := by omega
                have HMJ : Hid (MjA ts fr to m seen.length seen2 next2 now (j + 1)) := by
                  have := hMd.out
                  rw [List.drop_of_length_le (by omega)] at this
                  exact this.leave
                go_wp2
                go_roundw
                case rel => exact ⟨j + 1, A11, c11, A12, c12, seen2, next2, by omega, by go_num, rfl, rfl, hS11.out, hc11, hm11.out, hAp2.out, hW11.out, hW12.out, hSn2.out, HMJ.out, hnx2, hBk.out⟩
                case measure => simp [intOf]; omega
        · have hjz : ¬ (j : Int) < (now.length : Int) := by omega
          obtain ⟨h1, h2⟩ := hMj.out.close (by omega) hpos
          have HLV := Lib.hid h1
          clear h1
          have hsl3 : seen'.length ≤ n := by have := asc_len HLV.out.1 HLV.out.2.sound; rw [HL.out] at this; exact this
          go_wp2
          go_roundw
          case rel => exact ⟨m + 1, A9, c9, A10, c10, seen', next, by go_num, rfl, rfl, hS9.out, Sl.of_own hAp.out, hc9, hm9.out, HLV.out, by omega, hnx, hBi.out⟩
          case measure => simp only [slen]; omega
    · have hpz : ¬ (0 : Int) < (now.length : Int) := by omega
      have HN : Hid (¬ Rch (nxT ts) fr to) := by
        have h1 := hLv.out.2
        rw [List.eq_nil_of_length_eq_zero (by omega : now.length = 0)] at h1
        exact h1.none
      go_wp2
      go_ret
      exact ⟨_, rfl, .inl ⟨rfl, HN.out⟩, by omega, hBel.out⟩
end Go.Proofs.YtiphbincnnppdaaGreatDoor
