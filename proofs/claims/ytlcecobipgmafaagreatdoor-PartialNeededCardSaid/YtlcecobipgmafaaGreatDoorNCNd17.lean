/-
  Lemmas of the card.
-/
import Derived.Deep.CutRange
import Derived.Test.YtlcecobipgmafaaGreatDoorNCNd16
import Derived.Test.YtlcecobipgmafaaGreatDoorNCNd4
import Derived.Test.YtlcecobipgmafaaGreatDoorNCNd11
import Derived.Test.YtlcecobipgmafaaGreatDoorNCNd12
import Derived.Test.YtlcecobipgmafaaGreatDoorNCNd14
import Derived.Test.YtlcecobipgmafaaGreatDoorNCNd8
import Derived.Test.YtlcecobipgmafaaGreatDoorNCNd7
set_option maxRecDepth 100000
set_option maxHeartbeats 32000000
namespace Go.Proofs.YtlcecobipgmafaaGreatDoor
open Go.RowKit
section
open Go.Maps
def inL (l : List Dig) : Dig -> Bool := fun d => decide (d ∈ l)
theorem inL_true {l : List Dig} {d : Dig} : inL l d = true ↔ d ∈ l := by simp [inL]
theorem wO : inL [] = fun _ => false := by funext d; simp [inL]
theorem Dp {l l' : List Dig} {x : Dig} (h : ∀ y, y ∈ l' ↔ y = x ∨ y ∈ l) : inL l' = aK (inL l) x := by
 funext y
 rw [Bool.eq_iff_iff, inL_true, h, setB_true, inL_true]
def ApN (R A : OA) (n : Nat) : Prop := 0 < n -> ∀ g, bkO R = some g -> bkO A ≠ some g
structure NxC (w : World) (base : Nat) (nA : OA) (nn nc : Nat) (l : List Dig) (fA : OA) (fn : Nat) (mA : OA) (mn : Nat) (cA : OA) (cn : Nat) (eA : OA) (en : Nat) : Prop where
 o : w.ownsRow base 42 2 (.slice nA nn nc) nn (flat dgC l)
 f : ApN nA fA fn
 m : ApN nA mA mn
 c : ApN nA cA cn
 e : ApN nA eA en
theorem NxC.upon {w w' : World} {base : Nat} {nA : OA} {nn nc : Nat} {l : List Dig} {fA : OA} {fn : Nat} {mA : OA} {mn : Nat} {cA : OA} {cn : Nat} {eA : OA} {en : Nat} (h : NxC w base nA nn nc l fA fn mA mn cA cn eA en) (hb : Below w.heap.size w w') : NxC w' base nA nn nc l fA fn mA mn cA cn eA en :=
 ⟨fE h.o hb, h.f, h.m, h.c, h.e⟩
theorem mD {w : World} {base : Nat} {e : TypeId} {nA : OA} {nn nc : Nat} {xs : List Value} (h : w.ownsRow base e 2 (.slice nA nn nc) nn xs) : ∀ g, bkO nA = some g -> base <= g /\ g < w.heap.size := fun g hg => h.lt g (by rw [jR]; exact hg)
theorem jJ {U : List Dig} {w : World} {A : OA} {n c : Nat} {l : List Dig} (h : Lst7 U w A n c l) (hn : 0 < n) : ∀ g, bkO A = some g -> g < w.heap.size := fun g hg => by
 obtain ⟨b, off, e, hb, _⟩ := h.s.2 hn; rw [e] at hg; cases hg; exact hb
theorem ApN.onF {w : World} {R A A' : OA} {n n' : Nat} (h : ApN R A n) (hR : ∀ g, bkO R = some g -> g < w.heap.size) (ho : OnF w A n A' n') : ApN R A' n' := by
 rcases ho with ⟨rfl, rfl⟩ | ho
 . exact h
 . intro _ g hg h2
   cases A' with
   | none => cases h2
   | some a =>
     have h3 := ho a rfl; have h4 := hR g hg; have : a.block = g := Option.some.inj h2; omega
theorem pU {fn : Func} {i j : Tmp} (h : fn.results = #[.cell i 70, .tmp j]) {w : World} {a : Array Value} {b' : Nat} {u x0 x1 x2 x3 x4 x5 x6 : Value} (ha' : a[i]?.getD undef = .pointer (some ⟨b', 0, none⟩)) (hk' : Bk w b' 70 #[x0, x1, x2, x3, x4, x5, x6]) (hv : a[j]?.getD undef = u) :
  (results fn a).run Tryz.prog w = .ok (.tuple #[.agg #[x0, x1, x2, x3, x4, x5, x6], u]) w := by
 obtain ⟨k0, k1, k2, k3, k4, k5, k6⟩ := aR hk'; simp [results, h, ha', hv, go_sem, k0, k1, k2, k3, k4, k5, k6]
theorem En {w w' : World} {base b : Nat} {e t : TypeId} {A : OA} {n c : Nat} {xs : List Value} {cs : Array Value} (h : w.ownsRow base e 2 (.slice A n c) n xs) (hz : Bk w b t cs) (ht : t ≠ e) (hw : ∀ k, k ≠ b -> w'.heap[k]? = w.heap[k]?) : w'.ownsRow base e 2 (.slice A n c) n xs := by
 refine ⟨h.1, ?_⟩; rcases h.2 with h2 | ⟨g, cap, cur, hv, h1, h2, h3⟩
 . exact .inl h2
 . refine .inr ⟨g, cap, cur, hv, h1, (hw g fun e1 => ?_).trans h2, h3⟩
   subst e1; rw [show w.heap[g]? = _ from hz] at h2; injection h2 with h2; injection h2 with _ h2; exact ht h2
theorem NxC.box {w w' : World} {base b : Nat} {nA : OA} {nn nc : Nat} {l : List Dig} {fA : OA} {fn : Nat} {mA : OA} {mn : Nat} {cA : OA} {cn : Nat} {eA : OA} {en : Nat} {cs : Array Value} (h : NxC w base nA nn nc l fA fn mA mn cA cn eA en) (hz : Bk w b 70 cs) (hw : ∀ k, k ≠ b -> w'.heap[k]? = w.heap[k]?) : NxC w' base nA nn nc l fA fn mA mn cA cn eA en :=
 ⟨En h.o hz (by decide) hw, h.f, h.m, h.c, h.e⟩
theorem Be {U : List Dig} {W5 w6 wF : World} {A0 A6 : OA} {n0 c0 c6 : Nat} {m l' : List Dig} {d : Dig} (h7 : Lst7 U wF A0 n0 c0 m) (hup : ∀ k, W5.heap.size <= k -> wF.heap[k]? = w6.heap[k]?) (hz : w6.heap.size <= wF.heap.size) (hd : d ∈ U)
  (ha : AscD l') (hm : ∀ x, x ∈ l' ↔ x = d ∨ x ∈ m) (hw : (A6 = A0 /\ c6 = c0 /\ l' = m) ∨ Apd w6 W5.heap.size 42 2 A6 l'.length c6 (flat dgC l')) (hlc : l'.length <= c6) (hcm : c6 <= maxLen) : Lst7 U wF A6 l'.length c6 l' := by
 refine ⟨?_, hlc, hcm, ha, fun x hx => ?_⟩
 . rcases hw with ⟨rfl, rfl, rfl⟩ | hw
   . have := h7.s
     rwa [<- h7.s.len aS (by omega)] at this
   . refine qj hw.sl (fun hn k hk hb => hup k ?_) hz
     rcases hw with hw | ⟨hw, _⟩
     . exact (hw.lt k (by rw [jR]; exact hb)).1
     . omega
 . rcases (hm x).1 hx with rfl | h
   . exact hd
   . exact h7.u x h
theorem jv {U : List Dig} {w w' : World} {A R : OA} {n c : Nat} {l : List Dig} (h : Lst7 U w A n c l) (hg : w.grownBy w' (bkO R)) (hap : ApN R A n) (hs : w.heap.size <= w'.heap.size) : Lst7 U w' A n c l :=
 ⟨qj h.s (fun hn k hk hb => hg.block k hk fun e => hap hn k e.symm hb) hs, h.le, h.mx, h.asc, h.u⟩
theorem Dg {p : List Itm} {U : List Dig} {w : World} {s : RkS} {fA mA cA hA : OA} {fn fc mn mc cn cc hn hc : Nat} {com : List Dig} (h : Rk7 p U w s fA fn fc mA mn mc cA cn cc hA hn hc com) (hw : ∀ d, s.wh d = false) : hn = 0 := by
 obtain ⟨f, m, l, L1, L2, L3, L4, _, _, _, hh⟩ := h; have h1 := L4.s.len aS (by omega); rcases Nat.eq_zero_or_pos hn with h2 | h2
 . exact h2
 . obtain ⟨d, hd⟩ := List.exists_mem_of_length_pos (l := l) (by omega)
   have := (hh d).2 hd; rw [hw d] at this; cases this
theorem Bb {p : List Itm} {U : List Dig} {w w' : World} {s : RkS} {R fA mA cA hA : OA} {fn fc mn mc cn cc hn hc : Nat} {com : List Dig} (h : Rk7 p U w s fA fn fc mA mn mc cA cn cc hA hn hc com) (hw : ∀ d, s.wh d = false) (hg : w.grownBy w' (bkO R)) (hs : w.heap.size <= w'.heap.size) (hf : ApN R fA fn) (hm : ApN R mA mn) (hc' : ApN R cA cn) : Rk7 p U w' s fA fn fc mA mn mc cA cn cc hA hn hc com := by
 have h0 := Dg h hw; obtain ⟨f, m, l, L1, L2, L3, L4, h5⟩ := h; exact ⟨f, m, l, jv L1 hg hf hs, jv L2 hg hm hs, jv L3 hg hc' hs, jv L4 hg (fun h => by omega) hs, h5⟩
theorem ApN.app {w : World} {R R2 A : OA} {n : Nat} (h : ApN R A n) (hA : 0 < n -> ∀ g, bkO A = some g -> g < w.heap.size) (hd : ∀ g, bkO R2 = some g -> bkO R = some g ∨ w.heap.size <= g) : ApN R2 A n := by
 intro hn g hg h2; rcases hd g hg with h3 | h3
 . exact h hn g h3 h2
 . have := hA hn g h2; omega
section
variable {P : Program} {w : World} {e : TypeId}
theorem yO (t ty : TypeId) (i : TypeInfo) (ht : P.underlying t = some (.slice e)) (hi : P.info? e = some i) (A : OA) (n c : Nat) (hc : n <= c) (A' : OA) (c' : Nat) :
  (Builtin.append_ #[t, t] ty #[.slice A n c, .slice A' 0 c']).run P w = .ok (.slice A n c) w := by
 have hfc : (Builtin.firstCells i.size 0 (.slice A' 0 c')).run P w = .ok #[] w := by
  cases A' with
  | none => simp [Builtin.firstCells]
  | some a =>
    have := run_firstCells_some (P := P) w i.size 0 a 0 c' [] (by simp) (fun j u h => by simp at h)
    simpa using this
 cases A with
 | none => simp [Builtin.append_, run_underlying ht, sizeOf, typeInfo, hi, Builtin.lenOf, hc, hfc]
 | some a => simp [Builtin.append_, run_underlying ht, sizeOf, typeInfo, hi, Builtin.lenOf, hc, hfc, storeCells]
theorem yF {ops : Array Oper} {rest : List Oper} {o : Oper} {a : Act} {Q : Exit -> Act -> World -> Prop} (hgd : o.guard = none) (s x : Operand) (t : TypeId)
  (ho : o.op = .call { callee := .builtin .append, args := #[s, x], argTypes := #[t, t] }) (i : TypeInfo) (ht : P.underlying t = some (.slice e)) (hi : P.info? e = some i) (A : OA) (n c : Nat) (hc : n <= c) (hs : a.eval s = .slice A n c) (A' : OA) (c' : Nat) (hx : a.eval x = .slice A' 0 c')
  (h : wpList P ops Q rest (a.put o.dst (.slice A n c)) w) : wpList P ops Q (o :: rest) a w := by
 refine wpList_plain hgd fun K hK => ?_; have hr := yO (P := P) (w := w) t o.type i ht hi A n c hc A' c'; unfold Oper.wp; simp [execOp, ho, resolve, invoke, builtin, hs, hx, hr, Result.andThen]; exact hK _ _ h
end
theorem FM {w : World} {base : Nat} {e : TypeId} {A : OA} {n c : Nat} {xs : List Value} (h : w.ownsRow base e 2 (.slice A n c) n xs) : n <= c := by
 rcases h.2 with ⟨hv, h2⟩ | ⟨g, cap, cur, hv, _, _, h3, _⟩
 . omega
 . simp at hv; omega
theorem xc {w : World} {base : Nat} {e : TypeId} {A : OA} {n c : Nat} {l : List Dig} (h : w.ownsRow base e 2 (.slice A n c) n (flat dgC l)) : Sl w w.heap.size 2 A n (flat dgC l) := Apd.sl (.inl h)
def qN (p : List Itm) (U : List Dig) (pA : OA) (pn pc : Nat) (pre : ByteArray) (hA : OA) (hn hc : Nat) (hs : List Dig) (dep : Int) (w : World) (e : Ending) (w' : World) : Prop :=
 ∃ (s' : RkS) (fA : OA) (fn fc : Nat) (mA : OA) (mn mc : Nat) (cA : OA) (cn cc : Nat) (com' sl : List Dig) (eA : OA) (en ec : Nat),
  e = .returned (.tuple #[rkV pA pn pc pre fA fn fc mA mn mc cA cn cc hA hn hc s'.wr, .slice eA en ec]) /\ Rk7 p U w' s' fA fn fc mA mn mc cA cn cc hA hn hc com' /\ Lst7 U w' eA en ec sl ∧
  ComQ p hs aF dep (toL pre) (inL sl) com' s' /\ (∀ d, inL sl d = true ↔ NC p hs aF dep d) /\ Below w.heap.size w w'
def lvM (U : List Dig) (sl level : List Dig) : Nat := 2 * cu U (inL sl) + if level = [] then 0 else 1
def LvN (dep : Int) (n : Nat) (z : Int) : Prop := (dep = 0 /\ z = -1 - (n : Int)) ∨ (0 < dep /\ z = dep - (n : Int) /\ 0 <= z)
def qQ (k : Nat) : Prop := ∀ (p : List Itm) (U : List Dig) (pA : OA) (pn pc : Nat) (pre : ByteArray) (fA : OA) (fn fc : Nat) (mA : OA) (mn mc : Nat) (cA : OA) (cn cc : Nat) (hA : OA) (hn hc : Nat) (com : List Dig) (s : RkS)
  (hs : List Dig) (dep : Int) (n : Nat) (lA : OA) (ln lc : Nat) (level : List Dig) (eA : OA) (en ec : Nat) (sl : List Dig) (tA : OA) (tc : Nat) (z : Int) (w : World),
  Sl w w.heap.size 3 pA pn (flat itC p) -> Rk7 p U w s fA fn fc mA mn mc cA cn cc hA hn hc com -> pn <= 40 -> PlOk p -> U.length <= 9000 -> (∀ x ∈ U, WfD x) -> (∀ x o y, ay p x = some o -> y ∈ dX o -> y ∈ U) ->
  Sl w w.heap.size 2 lA ln (flat dgC level) -> (∀ x ∈ level, x ∈ U) -> ln <= 1000000 -> Lst7 U w eA en ec sl -> LvI p hs aF dep n (inL sl) level -> ComQ p hs aF dep (toL pre) (inL sl) com s -> LvN dep n z ->
  lvM U sl level < k -> n + lvM U sl level <= 100000 -> dep <= 9223372036854775807 ->
  Calls Tryz.prog 53 #[rkV pA pn pc pre fA fn fc mA mn mc cA cn cc hA hn hc s.wr, .slice lA ln lc, .slice eA en ec, .slice tA 0 tc, .int .i64 z] w (qN p U pA pn pc pre hA hn hc hs dep w)
theorem Fz {p : List Itm} {U : List Dig} {pA : OA} {pn pc : Nat} {pre : ByteArray} {fJ : OA} {fnj : Nat} {mJ : OA} {mnj : Nat} {cJ : OA} {cnj ccj : Nat} {hA : OA} {hn hc : Nat} {com : List Dig} {s4 : RkS} {r : Option Ob} {w3 : World} {p14 p15 p16 : Value} {V : World} (h : R9 p U pA pn pc pre fJ fnj mJ mnj cJ cnj ccj hA hn hc com s4 r w3 p14 p15 p16 V) :
 ∃ (o : Ob) (sl : Osl) (fA : OA) (fn fc : Nat) (mA : OA) (mn mc : Nat) (ok : Bool) (bo bw : Nat), p14 = .pointer (some ⟨bo, 0, none⟩) /\ p15 = .pointer (some ⟨bw, 0, none⟩) /\ p16 = .bool ok ∧
  Bk V bo 75 #[.int .i64 o.kind, .string o.data, .slice sl.eA sl.en sl.ec, .int .u64 o.tree.1, .int .u64 o.tree.2, .slice sl.pA sl.pn sl.pc, .string o.auth, .int .i64 o.time, .string o.msg] ∧
  Bk V bw 70 #[.slice pA pn pc, .string pre, .slice fA fn fc, .slice mA mn mc, .slice cJ cnj ccj, .slice hA hn hc, .bool s4.wr] /\ Rk7 p U V s4 fA fn fc mA mn mc cJ cnj ccj hA hn hc com ∧
  ((ok = false /\ r = none) ∨ (ok = true /\ r = some o /\ OkO o /\ ObM V V.heap.size o sl)) /\ OnF w3 fJ fnj fA fn /\ OnF w3 mJ mnj mA mn /\ Below w3.heap.size w3 V /\ w3.heap.size <= bo /\ w3.heap.size <= bw := h
attribute [local irreducible] R9
theorem Bw (k : Nat) (ih : qQ k) : qQ (k + 1) := by
 intro p U pA pn pc pre fA fn fc mA mn mc cA cn cc hA hn hc com s0 hs dep n lA ln lc level eA en ec sl tA tc z w hp hk hpn hpo hU hUw hUc hl hlu hln he hLI hCQ hz hM hn1 hdep; have HPO := ah hpo; have HK := ah hk; have HUL := ah hU; have HUW := ah hUw; have HUC := ah hUc; have HM := ah hM; have HN1 := ah hn1; have IH := ah ih; have HP := ah hp; have HLV := ah hl; have HLU := ah hlu; have HE := ah he; have HLI := ah hLI; have HCQ := ah hCQ; have HZ := ah hz; have HDP := ah hdep; have HLL := ah (hl.len aS (by omega)); obtain ⟨W0, hW0⟩ : ∃ W, ((w.alloc (.cells #[.slice pA pn pc, .string pre, .slice fA fn fc, .slice mA mn mc, .slice cA cn cc, .slice hA hn hc, .bool s0.wr] 70)).alloc (.cells #[.slice none 0 0, .string ⟨#[]⟩, .slice none 0 0, .slice none 0 0, .slice none 0 0, .slice none 0 0, .bool false] 70)) = W := ⟨_, rfl⟩
 have HB0 : Hid (Below w.heap.size w W0) := by rw [<- hW0]; exact (((Below.refl _ w).alloc ai _).alloc (by simp) _)
 have HK0 : Hid (Bk W0 w.heap.size 70 #[.slice pA pn pc, .string pre, .slice fA fn fc, .slice mA mn mc, .slice cA cn cc, .slice hA hn hc, .bool s0.wr]) := by rw [<- hW0]; exact (Bk.new w _ _).alloc _
 have HKw : Hid (Bk W0 (w.heap.size + 1) 70 zwC) := by
  have := Bk.new (w.alloc (.cells #[.slice pA pn pc, .string pre, .slice fA fn fc, .slice mA mn mc, .slice cA cn cc, .slice hA hn hc, .bool s0.wr] 70)) 70 #[.slice none 0 0, .string ⟨#[]⟩, .slice none 0 0, .slice none 0 0, .slice none 0 0, .slice none 0 0, .bool false]; rw [World.size_alloc] at this; rw [<- hW0]; exact this
 have z0 : w.heap.size + 1 < W0.heap.size := HKw.out.lt; obtain ⟨i0, hi, hz0, hz1, hz2⟩ := info_parts ik; have Hi := ah hi; have Hz0 := ah hz0; have Hz1 := ah hz1; have Hz2 := ah hz2; unfold rkV; have HW0 := ah hW0; clear hp hk hpo hU hUw hUc hl hlu he hLI hCQ hz hM hn1 hdep ih hW0 hi hz0 hz1 hz2
 -- the two ways out
 by_cases hout : ln = 0 ∨ z = 0
 case pos =>
  have HNC : Hid (∀ d, inL sl d = true ↔ NC p hs aF dep d) := by
   intro d; rcases hout with h | h
   . have h1 : level = [] := List.eq_nil_of_length_eq_zero (by rw [HLL.out]; exact h)
     have h2 := HLI.out; rw [h1] at h2; exact h2.fin d
   . rcases HZ.out with ⟨_, h2⟩ | ⟨h1, h2, _⟩
     . omega
     . exact HLI.out.cut (by omega) (by omega) d
  obtain ⟨x0, x1, x2, x3, x4, x5, x6⟩ := aR HK0.out; obtain ⟨v0, v1, v2, v3, v4, v5, v6⟩ := aR HKw.out; obtain ⟨f0, f1, f2, f3, f4, f5, f6⟩ := fr7 HKw.out; have hb : ((ln : Int) == 0) = true ∨ (((ln : Int) == 0) = false /\ (z == 0) = true) := by
   by_cases h1 : ln = 0
   . exact .inl (by rw [h1]; rfl)
   . exact .inr ⟨by rw [beq_eq_false_iff_ne]; omega, by rw [beq_iff_eq]; omega⟩
  clear hout; rw [<- HW0.out] at x0 x1 x2 x3 x4 x5 x6 v0 v1 v2 v3 v4 v5 v6 f0 f1 f2 f3 f4 f5 f6
  go_enter Tryz.func53, Tryz.ntmps53
  rcases hb with h1 | ⟨h1, h2⟩
  all_goals
   go_wp2_with fail; have HBK := Bk.new (w.alloc (.cells #[.slice pA pn pc, .string pre, .slice fA fn fc, .slice mA mn mc, .slice cA cn cc, .slice hA hn hc, .bool s0.wr] 70)) 70 #[.slice pA pn pc, .string pre, .slice fA fn fc, .slice mA mn mc, .slice cA cn cc, .slice hA hn hc, .bool s0.wr]; rw [World.size_alloc] at HBK; refine bodyPost_ret (pU Tryz.results53 rfl HBK rfl) rfl ?_; have hBF := ((Below.refl w.heap.size w).alloc ai (.cells #[.slice pA pn pc, .string pre, .slice fA fn fc, .slice mA mn mc, .slice cA cn cc, .slice hA hn hc, .bool s0.wr] 70)).alloc (by simp) (.cells #[.slice pA pn pc, .string pre, .slice fA fn fc, .slice mA mn mc, .slice cA cn cc, .slice hA hn hc, .bool s0.wr] 70); exact ⟨s0, fA, fn, fc, mA, mn, mc, cA, cn, cc, com, sl, eA, en, ec, rfl, HK.out.bel hBF, HE.out.bel hBF, HCQ.out, HNC.out, hBF⟩
 case neg =>
  have hb1 : ((ln : Int) == 0) = false := by rw [beq_eq_false_iff_ne]; omega
  have hb2 : (z == 0) = false := by rw [beq_eq_false_iff_ne]; omega
  have HZN : Hid (dep = 0 ∨ (n : Int) < dep) := by
   rcases HZ.out with ⟨h1, _⟩ | ⟨h1, h2, h3⟩
   . exact .inl h1
   . exact .inr (by omega)
  have HL1 : Hid (level ≠ []) := by
   intro h; have := HLL.out; rw [h] at this; simp at this; omega
  clear hout; obtain ⟨W1, hW1⟩ : ∃ W, W0.alloc (.cells #[] 42) = W := ⟨_, rfl⟩
  have hbW : Below W0.heap.size W0 W1 := by rw [<- hW1]; exact (Below.refl _ W0).alloc ai _
  have HB1 : Hid (Below w.heap.size w W1) := HB0.out.trans (hbW.mono HB0.out.size); have HK1 := ah (HK0.out.below hbW HK0.out.lt); have HKw1 := ah (HKw.out.below hbW HKw.out.lt); have HO1 : Hid (NxC W1 w.heap.size (some ⟨w.heap.size + 1 + 1, 0, none⟩) 0 0 [] fA fn mA mn cA cn eA en) := by
   have hz2 : W0.heap.size = w.heap.size + 1 + 1 := by rw [<- HW0.out]; simp
   rw [<- hz2]; obtain ⟨f, m, h, L1, L2, L3, L4, _⟩ := HK.out.lists; have hz := HB0.out.size; have key : ∀ {A : OA} {n c : Nat} {l : List Dig}, Lst7 U w A n c l -> ApN (some ⟨W0.heap.size, 0, none⟩) A n := fun {A n c l} L hn g hg h2 => by
    have h3 := jJ L hn g h2; have : W0.heap.size = g := Option.some.inj hg; omega
   refine ⟨?_, key L1, key L2, key L3, key HE.out⟩; rw [<- hW1]; exact ⟨rfl, .inr ⟨W0.heap.size, 0, #[], rfl, hz, heap_alloc_new W0 _, Nat.le_refl _, Nat.zero_le _, rfl, rfl⟩⟩
  have HW1 := ah hW1; clear hW1 hbW z0
  go_enter Tryz.func53, Tryz.ntmps53
  go_wp2_with fail; rw [HW0.out, HW1.out]; clear HK0 HKw HB0
  go_loopw [2, 12, 13] (fun q nx i wr => ∃ (j : Nat) (sj : RkS) (fJ : OA) (fnj fcj : Nat) (mJ : OA) (mnj mcj : Nat) (cJ : OA) (cnj ccj : Nat) (comj slj nxl : List Dig) (eJ : OA) (enj ecj : Nat) (nA : OA) (nn nc : Nat),
   q = .slice eJ enj ecj /\ nx = .slice nA nn nc /\ i = .int .i64 (j : Int) /\ j <= ln /\ Hid (Bk wr w.heap.size 70 #[.slice pA pn pc, .string pre, .slice fJ fnj fcj, .slice mJ mnj mcj, .slice cJ cnj ccj, .slice hA hn hc, .bool sj.wr]) /\ Hid (Bk wr (w.heap.size + 1) 70 zwC) ∧
   Hid (Rk7 p U wr sj fJ fnj fcj mJ mnj mcj cJ cnj ccj hA hn hc comj) /\ Hid (Lst7 U wr eJ enj ecj slj) /\ Hid (NxC wr w.heap.size nA nn nc nxl fJ fnj mJ mnj cJ cnj eJ enj) /\ Hid (LvJ p hs aF dep n level j (inL slj) nxl) /\ Hid (ComQ p hs aF dep (toL pre) (inL slj) comj sj) ∧
   Hid (nxl.length + 10 * cu U (inL slj) <= 10 * cu U (inL sl)) /\ Hid (∀ x ∈ nxl, x ∈ U) /\ Hid (Below w.heap.size w wr)) (fun _ _ i _ => ln - (intOf i).toNat)
  case atStart =>
   exact ⟨0, s0, _, _, _, _, _, _, _, _, _, com, sl, [], _, _, _, _, _, _, rfl, rfl, rfl, Nat.zero_le _, HK1.out, HKw1.out, HK.out.bel HB1.out, HE.out.bel HB1.out, HO1.out, HLI.out.into, HCQ.out, by show _ <= _; simp, fun x hx => by (cases hx), HB1.out⟩
  case round =>
   obtain ⟨j, sj, fJ, fnj, fcj, mJ, mnj, mcj, cJ, cnj, ccj, comj, slj, nxl, eJ, enj, ecj, nA, nn, nc, rfl, rfl, rfl, hj, hKr, hKwr, hRr, hEr, hNr, hLr, hCr, hUr, hXr, hBr⟩ := hrel; have HKr := ah hKr.out; have HKwr := ah hKwr.out; have HRr := ah hRr.out; have HEr := ah hEr.out; have HNr := ah hNr.out; have HLr := ah hLr.out; have HCr := ah hCr.out; have HUr := ah hUr.out; have HXr := ah hXr.out; have HBr := ah hBr.out; have zr : w.heap.size + 1 < wr.heap.size := HKwr.out.lt; clear hKr hKwr hRr hEr hNr hLr hCr hUr hXr hBr HK1 HKw1 HB1 HO1; by_cases hlt : j < ln
   case neg =>
    have hjl : j = ln := by omega
    subst hjl; have HL9 : Hid (LvI p hs aF dep (n + 1) (inL slj) nxl) := by
     have h1 := HLr.out; rw [<- HLL.out] at h1; exact h1.nextLv
    have HNS := ah (xc HNr.out.o); have HNL : Hid (nxl.length = nn) := HNS.out.len aS (by omega); have HUN : Hid (cu U (inL sl) <= 9000) := Nat.le_trans (lH _ _) HUL.out; have hl0 : lvM U sl level = 2 * cu U (inL sl) + 1 := by unfold lvM; rw [if_neg HL1.out]
    have HLM : Hid (lvM U slj nxl + 1 <= lvM U sl level) := by
     have h1 := HUr.out; show _ <= _; rw [hl0]; unfold lvM; by_cases h2 : nxl = []
     . rw [if_pos h2]; rw [h2] at h1; simp at h1; omega
     . rw [if_neg h2]
       have := List.length_pos_iff.2 h2; omega
    have hn9 := HN1.out; have hk9 := HM.out; have hdp := HDP.out; have hz9 : LvN dep (n + 1) (z - 1) /\ -9223372036854775808 <= z - 1 /\ z - 1 <= 9223372036854775807 := by
     rcases HZ.out with ⟨h1, h2⟩ | ⟨h1, h2, h3⟩
     . exact ⟨.inl ⟨h1, by omega⟩, by omega, by omega⟩
     . have : z ≠ 0 := by intro h; rw [h] at hb2; cases hb2
       exact ⟨.inr ⟨h1, by omega, by omega⟩, by omega, by omega⟩
    have HW9 : Hid (IntKind.i64.wrap (z - 1) = z - 1) := lW hz9.2.1 (by have := hz9.2.2; omega); have HC9 := ah (IH.out p U pA pn pc pre fJ fnj fcj mJ mnj mcj cJ cnj ccj hA hn hc comj sj hs dep (n + 1) nA nn nc nxl eJ enj ecj slj tA tc (z - 1) wr ((HP.out.below HBr.out ai).more HBr.out.size) HRr.out hpn HPO.out HUL.out HUW.out HUC.out HNS.out HXr.out (by have h1 := HNL.out; have h2 := HUr.out; have h3 := HUN.out; omega) HEr.out HL9.out HCr.out hz9.1 (by have := HLM.out; omega) (by have := HLM.out; omega) HDP.out); unfold qN at HC9; simp only [rkV] at HC9; have hwz := HW9.out; clear hz9 hn9 hk9 hdp hl0; have hltz : ¬ (j : Int) < (j : Int) := by omega
    obtain ⟨x0, x1, x2, x3, x4, x5, x6⟩ := aR HKr.out; go_wp2_with fail; refine HC9.out.mono ?_; rintro e w9 ⟨s9, f9, fn9, fc9, m9, mn9, mc9, c9, cn9, cc9, com9, sl9, e9, en9, ec9, rfl, hR9, hE9, hC9, hS9, hb9⟩; have HB9 : Hid (Below w.heap.size w w9) := HBr.out.trans (hb9.mono HBr.out.size); have HKw9 := ah (HKwr.out.below hb9 HKwr.out.lt); have HR9 := ah hR9; have HE9 := ah hE9; have HCQ9 := ah hC9; have HS9 := ah hS9; clear hb9 hR9 hE9 hC9 hS9 HC9 hwz hltz x0 x1 x2 x3 x4 x5 x6; obtain ⟨v0, v1, v2, v3, v4, v5, v6⟩ := aR HKw9.out; obtain ⟨f0, f1, f2, f3, f4, f5, f6⟩ := fr7 HKw9.out; go_wp2_with fail; refine bodyPost_ret (pU Tryz.results53 rfl (dE HKw9.out _ _ _ _ _ _ _) rfl) rfl ?_; have hBF := dD HB9.out (b := w.heap.size + 1) (by omega) (.slice pA pn pc) (.string pre) (.slice f9 fn9 fc9) (.slice m9 mn9 mc9) (.slice c9 cn9 cc9) (.slice hA hn hc) (.bool s9.wr); have ho9 : ∀ k, k ≠ w.heap.size + 1 -> _ = w9.heap[k]? := fun k hk => cK (b' := w.heap.size + 1) hk (.slice pA pn pc) (.string pre) (.slice f9 fn9 fc9) (.slice m9 mn9 mc9) (.slice c9 cn9 cc9) (.slice hA hn hc) (.bool s9.wr); exact ⟨s9, f9, fn9, fc9, m9, mn9, mc9, c9, cn9, cc9, com9, sl9, e9, en9, ec9, rfl, gz HR9.out HKw9.out ho9 (by simp), dS HE9.out HKw9.out ho9 (by simp), HCQ9.out, HS9.out, hBF⟩
   case pos =>
    have hltz : (j : Int) < (ln : Int) := by omega
    obtain ⟨b, off, d, rfl, hbB, hd, y0, y1⟩ := (HLV.out.below HBr.out ai).dg hlt; have HD := ah hd; have HDU : Hid (d ∈ U) := HLU.out d (List.mem_of_getElem? hd); clear hd; obtain ⟨d1, d2⟩ := d; simp only at y0 y1; have hen : enj <= 9000 := HEr.out.len HUL.out; have HIN := ah (jK eJ enj ecj wr.heap.size slj (d1, d2) wr HEr.out.s ai (by omega)); simp only [az] at HIN; go_wp2_with fail; refine HIN.out.mono ?_; rintro e w2 ⟨rfl, hb2⟩; have HB2 : Hid (Below w.heap.size w w2) := HBr.out.trans (hb2.mono HBr.out.size); have HK2 := ah (HKr.out.below hb2 HKr.out.lt); have HKw2 := ah (HKwr.out.below hb2 HKwr.out.lt); have HR2 := ah (HRr.out.bel hb2); have HE2 := ah (HEr.out.bel hb2); have HN2 := ah (HNr.out.upon hb2); have z2 : w.heap.size + 1 < w2.heap.size := HKw2.out.lt; have Y0 := (hb2.cell (p := ⟨b, off + j * 2, none⟩) (by show b < _; omega)).trans y0; have Y1 := (hb2.cell (p := ⟨b, off + j * 2 + 1, none⟩) (by show b < _; omega)).trans y1; clear hb2 HIN y0 y1 HKr HKwr HRr HEr HNr HBr zr; by_cases hin : (d1, d2) ∈ slj
    case pos =>
     rw [decide_eq_true hin]; have HL2 := ah (HLr.out.skip HD.out (inL_true.2 hin)); clear hin; go_wp2_with fail; go_roundw
     case rel => exact ⟨j + 1, sj, _, _, _, _, _, _, _, _, _, comj, slj, nxl, _, _, _, _, _, _, rfl, rfl, by go_num, hlt, HK2.out, HKw2.out, HR2.out, HE2.out, HN2.out, HL2.out, HCr.out, HUr.out, HXr.out, HB2.out⟩
     case measure => simp [intOf]; omega
    case neg =>
     rw [decide_eq_false hin]; have HNI := ah hin; clear hin; have HWI := ah (iB eJ enj ecj w2.heap.size slj (d1, d2) w2 HE2.out.s ai HE2.out.le HE2.out.mx (by omega) HE2.out.asc); unfold iw at HWI; simp only [az] at HWI; go_wp2_with fail; refine HWI.out.mono ?_; rintro e w3 ⟨sl3, eA3, ec3, hasc, hmem, hlen, rfl, hwh, hlc, hcm, hb3⟩; have HB3 : Hid (Below w.heap.size w w3) := HB2.out.trans (hb3.mono HB2.out.size); have HK3 := ah (HK2.out.below hb3 HK2.out.lt); have HKw3 := ah (HKw2.out.below hb3 HKw2.out.lt); have HR3 := ah (HR2.out.bel hb3); have HOF : Hid (OnF w2 eJ enj eA3 sl3.length) := jF ai hwh ((hmem _).2 (.inl rfl)) (HE2.out.s.len aS (by omega)); have HN3 : Hid (NxC w3 w.heap.size nA nn nc nxl fJ fnj mJ mnj cJ cnj eA3 sl3.length) := by
      have h1 := HN2.out.upon hb3; exact ⟨h1.o, h1.f, h1.m, h1.c, h1.e.onF (fun g hg => (mD HN2.out.o g hg).2) HOF.out⟩
     have HE3 : Hid (Lst7 U w3 eA3 sl3.length ec3 sl3) := iE HE2.out hb3 (fun k _ => rfl) ai HDU.out hasc hmem hwh hlc hcm; have HIL := ah (Dp hmem); have z3 : w.heap.size + 1 < w3.heap.size := HKw3.out.lt; have y0 := (hb3.cell (p := ⟨b, off + j * 2, none⟩) (by show b < _; have := HB2.out.size; omega)).trans Y0; have y1 := (hb3.cell (p := ⟨b, off + j * 2 + 1, none⟩) (by show b < _; have := HB2.out.size; omega)).trans Y1; obtain ⟨en3, hen3⟩ : ∃ m, sl3.length = m := ⟨_, rfl⟩
     rw [hen3] at HN3 HE3; rw [hen3]; clear hb3 HWI Y0 Y1 HK2 HKw2 HR2 HE2 HN2 HB2 z2 hasc hmem hlen hwh hlc hcm HOF hen3; obtain ⟨x0, x1, x2, x3, x4, x5, x6⟩ := aR HK3.out; have HG : Hid (∀ W, Below w3.heap.size w3 W -> Calls Tryz.prog 79 #[.agg #[.slice pA pn pc, .string pre, .slice fJ fnj fcj, .slice mJ mnj mcj, .slice cJ cnj ccj, .slice hA hn hc, .bool sj.wr], .agg #[.int .u64 d1, .int .u64 d2], .int .i64 3] W (G7E p U pA pn pc pre fJ fnj mJ mnj cJ cnj ccj hA hn hc comj sj (d1, d2) 3 W)) := fun W hW =>
      nX p U pA pn pc pre fJ fnj fcj mJ mnj mcj cJ cnj ccj hA hn hc comj sj (d1, d2) 3 W ((HP.out.below (HB3.out.trans (hW.mono HB3.out.size)) ai).more (HB3.out.trans (hW.mono HB3.out.size)).size) (HR3.out.bel hW) hpn HPO.out HDU.out HUL.out (HUW.out _ HDU.out)
     unfold G7E at HG; simp only [rkV, obV, obC] at HG; obtain ⟨r, hr⟩ : ∃ r, aW p sj (d1, d2) 3 = r := ⟨_, rfl⟩
     simp only [hr] at HG; obtain ⟨s4, r4⟩ := r; have HGR := ah hr; clear hr; simp only at HG; have hbw3 : b < w3.heap.size := by have := HB3.out.size; omega
     have hbx1 : b ≠ w3.heap.size := by omega
     have hbx2 : b ≠ w3.heap.size + 1 := by omega
     have hwx0 : w.heap.size < w3.heap.size := by omega
     have hwx1 : w.heap.size ≠ w3.heap.size := by omega
     have hwx2 : w.heap.size ≠ w3.heap.size + 1 := by omega
     go_upto_region 9 with fail
     go_cut [14, 15, 16] from 33 to 76 (fun p14 p15 p16 wx => Hid (R9 p U pA pn pc pre fJ fnj mJ mnj cJ cnj ccj hA hn hc comj s4 r4 w3 p14 p15 p16 wx))
     case first =>
      go_region_law (go_simp; go_at_call 79; (first
         | (refine (HG.out (w3.drew) ((Below.refl _ _).drew)).mono ?_
            rintro e w4 ⟨o, osl, f4, fn4, fc4, m4, mn4, mc4, ok, rfl, hR4, hok4, hb4, of4, om4⟩; have hs4 := hb4.size; have hz4 : w3.heap.size <= w4.heap.size := Nat.le_trans (by first | omega | (simp; omega) | simp) hs4; have HB4 : Hid (Below w3.heap.size w3 w4) := ((Below.refl _ _).drew).trans (hb4.mono (by simp <;> omega)); unfold OnF at of4 om4; have HP9 : Hid (jf p U pA pn pc pre fJ fnj fcj mJ mnj mcj cJ cnj ccj hA hn hc comj sj s4 r4 w3 w4 (w3.heap.size) o osl f4 fn4 fc4 m4 mn4 mc4 ok) := ⟨HR3.out, hR4, hok4, by omega, hs4, of4, om4, HB4.out⟩
            clear hR4 hok4 hb4 of4 om4 hs4)
         | (refine (HG.out (w3.drew.alloc (.cells #[.int .i64 0, .string ⟨#[]⟩, .slice none 0 0, .int .u64 0, .int .u64 0, .slice none 0 0, .string ⟨#[]⟩, .int .i64 0, .string ⟨#[]⟩] 75)) ((Below.refl _ _).drew.alloc ai _)).mono ?_
            rintro e w4 ⟨o, osl, f4, fn4, fc4, m4, mn4, mc4, ok, rfl, hR4, hok4, hb4, of4, om4⟩; have hs4 := hb4.size; have hz4 : w3.heap.size <= w4.heap.size := Nat.le_trans (by first | omega | (simp; omega) | simp) hs4; have HB4 : Hid (Below w3.heap.size w3 w4) := ((Below.refl _ _).drew.alloc ai _).trans (hb4.mono (by simp <;> omega)); unfold OnF at of4 om4; rw [World.size_alloc] at of4 om4 hs4; have HP9 : Hid (jf p U pA pn pc pre fJ fnj fcj mJ mnj mcj cJ cnj ccj hA hn hc comj sj s4 r4 w3 w4 (w3.heap.size + 1) o osl f4 fn4 fc4 m4 mn4 mc4 ok) := ⟨HR3.out, hR4, hok4, by omega, hs4, of4, om4, HB4.out⟩
            have KO1 : Hid (Bk w4 (w3.heap.size) 75 zrC) := by have h1 := Bk.new w3.drew 75 #[.int .i64 0, .string ⟨#[]⟩, .slice none 0 0, .int .u64 0, .int .u64 0, .slice none 0 0, .string ⟨#[]⟩, .int .i64 0, .string ⟨#[]⟩]; exact h1.below hb4 h1.lt
            obtain ⟨q0, q1, q2, q3, q4, q5, q6, q7, q8⟩ := KO1.out.nine; obtain ⟨g0, g1, g2, g3, g4, g5, g6, g7, g8⟩ := fr9 KO1.out; have no1 : w3.heap.size < w4.heap.size := KO1.out.lt; have no2 : w3.heap.size ≠ w4.heap.size := by omega
            have no3 : w4.heap.size ≠ w3.heap.size := by omega
            clear hR4 hok4 hb4 of4 om4 hs4)
         | (refine (HG.out (w3.drew.alloc (.cells #[.slice none 0 0, .string ⟨#[]⟩, .slice none 0 0, .slice none 0 0, .slice none 0 0, .slice none 0 0, .bool false] 70)) ((Below.refl _ _).drew.alloc ai _)).mono ?_
            rintro e w4 ⟨o, osl, f4, fn4, fc4, m4, mn4, mc4, ok, rfl, hR4, hok4, hb4, of4, om4⟩; have hs4 := hb4.size; have hz4 : w3.heap.size <= w4.heap.size := Nat.le_trans (by first | omega | (simp; omega) | simp) hs4; have HB4 : Hid (Below w3.heap.size w3 w4) := ((Below.refl _ _).drew.alloc ai _).trans (hb4.mono (by simp <;> omega)); unfold OnF at of4 om4; rw [World.size_alloc] at of4 om4 hs4; have HP9 : Hid (jf p U pA pn pc pre fJ fnj fcj mJ mnj mcj cJ cnj ccj hA hn hc comj sj s4 r4 w3 w4 (w3.heap.size + 1) o osl f4 fn4 fc4 m4 mn4 mc4 ok) := ⟨HR3.out, hR4, hok4, by omega, hs4, of4, om4, HB4.out⟩
            have KW1 : Hid (Bk w4 (w3.heap.size) 70 zwC) := by have h1 := Bk.new w3.drew 70 #[.slice none 0 0, .string ⟨#[]⟩, .slice none 0 0, .slice none 0 0, .slice none 0 0, .slice none 0 0, .bool false]; exact h1.below hb4 h1.lt
            obtain ⟨u0, u1, u2, u3, u4, u5, u6⟩ := aR KW1.out; obtain ⟨v0, v1, v2, v3, v4, v5, v6⟩ := fr7 KW1.out; have nw1 : w3.heap.size < w4.heap.size := KW1.out.lt; have nw2 : w3.heap.size ≠ w4.heap.size := by omega
            have nw3 : w4.heap.size ≠ w3.heap.size := by omega
            clear hR4 hok4 hb4 of4 om4 hs4)
         | (refine (HG.out ((w3.drew.alloc (.cells #[.int .i64 0, .string ⟨#[]⟩, .slice none 0 0, .int .u64 0, .int .u64 0, .slice none 0 0, .string ⟨#[]⟩, .int .i64 0, .string ⟨#[]⟩] 75)).alloc (.cells #[.slice none 0 0, .string ⟨#[]⟩, .slice none 0 0, .slice none 0 0, .slice none 0 0, .slice none 0 0, .bool false] 70)) (((Below.refl _ _).drew.alloc ai _).alloc (by simp) _)).mono ?_
            rintro e w4 ⟨o, osl, f4, fn4, fc4, m4, mn4, mc4, ok, rfl, hR4, hok4, hb4, of4, om4⟩; have hs4 := hb4.size; have hz4 : w3.heap.size <= w4.heap.size := Nat.le_trans (by first | omega | (simp; omega) | simp) hs4; have HB4 : Hid (Below w3.heap.size w3 w4) := (((Below.refl _ _).drew.alloc ai _).alloc (by simp) _).trans (hb4.mono (by simp <;> omega)); unfold OnF at of4 om4; rw [World.size_alloc, World.size_alloc] at of4 om4 hs4; have HP9 : Hid (jf p U pA pn pc pre fJ fnj fcj mJ mnj mcj cJ cnj ccj hA hn hc comj sj s4 r4 w3 w4 (w3.heap.size + 1 + 1) o osl f4 fn4 fc4 m4 mn4 mc4 ok) := ⟨HR3.out, hR4, hok4, by omega, hs4, of4, om4, HB4.out⟩
            have KO2 : Hid (Bk w4 (w3.heap.size) 75 zrC) := by have h1 := (Bk.new w3.drew 75 #[.int .i64 0, .string ⟨#[]⟩, .slice none 0 0, .int .u64 0, .int .u64 0, .slice none 0 0, .string ⟨#[]⟩, .int .i64 0, .string ⟨#[]⟩]).alloc (.cells #[.slice none 0 0, .string ⟨#[]⟩, .slice none 0 0, .slice none 0 0, .slice none 0 0, .slice none 0 0, .bool false] 70); exact h1.below hb4 h1.lt
            obtain ⟨q0, q1, q2, q3, q4, q5, q6, q7, q8⟩ := KO2.out.nine; obtain ⟨g0, g1, g2, g3, g4, g5, g6, g7, g8⟩ := fr9 KO2.out; have no1 : w3.heap.size < w4.heap.size := KO2.out.lt; have no2 : w3.heap.size ≠ w4.heap.size := by omega
            have no3 : w4.heap.size ≠ w3.heap.size := by omega
            have KW2 : Hid (Bk w4 (w3.heap.size + 1) 70 zwC) := by have h1 := Bk.new (w3.drew.alloc (.cells #[.int .i64 0, .string ⟨#[]⟩, .slice none 0 0, .int .u64 0, .int .u64 0, .slice none 0 0, .string ⟨#[]⟩, .int .i64 0, .string ⟨#[]⟩] 75)) 70 #[.slice none 0 0, .string ⟨#[]⟩, .slice none 0 0, .slice none 0 0, .slice none 0 0, .slice none 0 0, .bool false]; rw [World.size_alloc] at h1; exact h1.below hb4 h1.lt
            obtain ⟨u0, u1, u2, u3, u4, u5, u6⟩ := aR KW2.out; obtain ⟨v0, v1, v2, v3, v4, v5, v6⟩ := fr7 KW2.out; have nw1 : w3.heap.size + 1 < w4.heap.size := KW2.out.lt; have nw2 : w3.heap.size + 1 ≠ w4.heap.size := by omega
            have nw3 : w4.heap.size ≠ w3.heap.size + 1 := by omega
            clear hR4 hok4 hb4 of4 om4 hs4)
         | (refine (HG.out ((w3.drew.alloc (.cells #[.slice none 0 0, .string ⟨#[]⟩, .slice none 0 0, .slice none 0 0, .slice none 0 0, .slice none 0 0, .bool false] 70)).alloc (.cells #[.int .i64 0, .string ⟨#[]⟩, .slice none 0 0, .int .u64 0, .int .u64 0, .slice none 0 0, .string ⟨#[]⟩, .int .i64 0, .string ⟨#[]⟩] 75)) (((Below.refl _ _).drew.alloc ai _).alloc (by simp) _)).mono ?_
            rintro e w4 ⟨o, osl, f4, fn4, fc4, m4, mn4, mc4, ok, rfl, hR4, hok4, hb4, of4, om4⟩; have hs4 := hb4.size; have hz4 : w3.heap.size <= w4.heap.size := Nat.le_trans (by first | omega | (simp; omega) | simp) hs4; have HB4 : Hid (Below w3.heap.size w3 w4) := (((Below.refl _ _).drew.alloc ai _).alloc (by simp) _).trans (hb4.mono (by simp <;> omega)); unfold OnF at of4 om4; rw [World.size_alloc, World.size_alloc] at of4 om4 hs4; have HP9 : Hid (jf p U pA pn pc pre fJ fnj fcj mJ mnj mcj cJ cnj ccj hA hn hc comj sj s4 r4 w3 w4 (w3.heap.size + 1 + 1) o osl f4 fn4 fc4 m4 mn4 mc4 ok) := ⟨HR3.out, hR4, hok4, by omega, hs4, of4, om4, HB4.out⟩
            have KW3 : Hid (Bk w4 (w3.heap.size) 70 zwC) := by have h1 := (Bk.new w3.drew 70 #[.slice none 0 0, .string ⟨#[]⟩, .slice none 0 0, .slice none 0 0, .slice none 0 0, .slice none 0 0, .bool false]).alloc (.cells #[.int .i64 0, .string ⟨#[]⟩, .slice none 0 0, .int .u64 0, .int .u64 0, .slice none 0 0, .string ⟨#[]⟩, .int .i64 0, .string ⟨#[]⟩] 75); exact h1.below hb4 h1.lt
            obtain ⟨u0, u1, u2, u3, u4, u5, u6⟩ := aR KW3.out; obtain ⟨v0, v1, v2, v3, v4, v5, v6⟩ := fr7 KW3.out; have nw1 : w3.heap.size < w4.heap.size := KW3.out.lt; have nw2 : w3.heap.size ≠ w4.heap.size := by omega
            have nw3 : w4.heap.size ≠ w3.heap.size := by omega
            have KO3 : Hid (Bk w4 (w3.heap.size + 1) 75 zrC) := by have h1 := Bk.new (w3.drew.alloc (.cells #[.slice none 0 0, .string ⟨#[]⟩, .slice none 0 0, .slice none 0 0, .slice none 0 0, .slice none 0 0, .bool false] 70)) 75 #[.int .i64 0, .string ⟨#[]⟩, .slice none 0 0, .int .u64 0, .int .u64 0, .slice none 0 0, .string ⟨#[]⟩, .int .i64 0, .string ⟨#[]⟩]; rw [World.size_alloc] at h1; exact h1.below hb4 h1.lt
            obtain ⟨q0, q1, q2, q3, q4, q5, q6, q7, q8⟩ := KO3.out.nine; obtain ⟨g0, g1, g2, g3, g4, g5, g6, g7, g8⟩ := fr9 KO3.out; have no1 : w3.heap.size + 1 < w4.heap.size := KO3.out.lt; have no2 : w3.heap.size + 1 ≠ w4.heap.size := by omega
            have no3 : w4.heap.size ≠ w3.heap.size + 1 := by omega
            clear hR4 hok4 hb4 of4 om4 hs4)))
      all_goals
       simp only [Exit.then]
       go_step
       go_meet
       refine ah ?_
       first | exact Gc HP9.out rfl KO2.out KW2.out | exact Gf HP9.out rfl KO3.out KW3.out | exact Gd HP9.out rfl KO1.out | exact Ga HP9.out rfl KW1.out | exact FX HP9.out | exact FU HP9.out
     case rest =>
      obtain ⟨o, osl, f5, fn5, fc5, m5, mn5, mc5, ok, bo, bw, rfl, rfl, rfl, hko, hkw, hR5, hok5, of5, om5, hb5, hzo, hzw⟩ := Fz hcut.out; have HB5 : Hid (Below w.heap.size w wc) := HB3.out.trans (hb5.mono HB3.out.size); have HKo5 : Hid _ := hko; have HKx5 : Hid _ := hkw; have HK5 := ah (HK3.out.below hb5 HK3.out.lt); have HKz5 := ah (HKw3.out.below hb5 HKw3.out.lt); have HE5 := ah (HE3.out.bel hb5); have HR5 := ah hR5; have HOK5 := ah hok5; have HN5 : Hid (NxC wc w.heap.size nA nn nc nxl f5 fn5 m5 mn5 cJ cnj eA3 en3) := by
       have h1 := HN3.out.upon hb5; have h2 := fun g hg => (mD HN3.out.o g hg).2; exact ⟨h1.o, h1.f.onF h2 of5, h1.m.onF h2 om5, h1.c, h1.e⟩
      have z5 : w3.heap.size <= wc.heap.size := hb5.size; have Y0 := (hb5.cell (p := ⟨b, off + j * 2, none⟩) hbw3).trans y0; have Y1 := (hb5.cell (p := ⟨b, off + j * 2 + 1, none⟩) hbw3).trans y1; have hbo0 : w.heap.size ≠ bo := by omega
      have hbw0 : w.heap.size ≠ bw := by omega
      have hbw1 : bw ≠ w.heap.size := by omega
      clear hcut hko hkw hR5 hok5 of5 om5 hb5 HK3 HKw3 HE3 HN3 HR3 HG y0 y1 x0 x1 x2 x3 x4 x5 x6; have HNCd : Hid (NC p hs aF dep (d1, d2)) := ⟨n, HLr.out.lv _ (List.mem_of_getElem? HD.out), HZN.out⟩
      obtain ⟨x0, x1, x2, x3, x4, x5, x6⟩ := aR HKx5.out; obtain ⟨_, _, _, _, _, _, _⟩ := aR HK5.out; obtain ⟨f0, f1, f2, f3, f4, f5', f6⟩ := fr7 HK5.out; obtain ⟨wF, hwF⟩ : ∃ W, (((((((wc.setCell ⟨w.heap.size, 0, none⟩ (.slice pA pn pc)).setCell ⟨w.heap.size, 1, none⟩ (.string pre)).setCell ⟨w.heap.size, 2, none⟩ (.slice f5 fn5 fc5)).setCell ⟨w.heap.size, 3, none⟩ (.slice m5 mn5 mc5)).setCell ⟨w.heap.size, 4, none⟩ (.slice cJ cnj ccj)).setCell ⟨w.heap.size, 5, none⟩ (.slice hA hn hc)).setCell ⟨w.heap.size, 6, none⟩ (.bool s4.wr)) = W := ⟨_, rfl⟩
      have HBF : Hid (Below w.heap.size w wF) := by rw [<- hwF]; exact dD HB5.out ai (.slice pA pn pc) (.string pre) (.slice f5 fn5 fc5) (.slice m5 mn5 mc5) (.slice cJ cnj ccj) (.slice hA hn hc) (.bool s4.wr)
      have HKF : Hid (Bk wF w.heap.size 70 #[.slice pA pn pc, .string pre, .slice f5 fn5 fc5, .slice m5 mn5 mc5, .slice cJ cnj ccj, .slice hA hn hc, .bool s4.wr]) := by rw [<- hwF]; exact dE HK5.out _ _ _ _ _ _ _
      have HKzF : Hid (Bk wF (w.heap.size + 1) 70 zwC) := by rw [<- hwF]; exact dW HKz5.out (by omega) _ _ _ _ _ _ _
      have HKoF : Hid (Bk wF bo 75 #[.int .i64 o.kind, .string o.data, .slice osl.eA osl.en osl.ec, .int .u64 o.tree.1, .int .u64 o.tree.2, .slice osl.pA osl.pn osl.pc, .string o.auth, .int .i64 o.time, .string o.msg]) := by rw [<- hwF]; exact dW HKo5.out (by omega) _ _ _ _ _ _ _
      have hzF : wc.heap.size <= wF.heap.size := by rw [<- hwF]; simp
      have hoF : ∀ k, k ≠ w.heap.size -> wF.heap[k]? = wc.heap[k]? := fun k hk => by rw [<- hwF]; exact cK (b' := w.heap.size) hk (.slice pA pn pc) (.string pre) (.slice f5 fn5 fc5) (.slice m5 mn5 mc5) (.slice cJ cnj ccj) (.slice hA hn hc) (.bool s4.wr)
      have HRF : Hid (Rk7 p U wF s4 f5 fn5 fc5 m5 mn5 mc5 cJ cnj ccj hA hn hc comj) := gz HR5.out HK5.out hoF hzF; have HEF : Hid (Lst7 U wF eA3 en3 ec3 sl3) := dS HE5.out HK5.out hoF hzF; have HNF : Hid (NxC wF w.heap.size nA nn nc nxl f5 fn5 m5 mn5 cJ cnj eA3 en3) := HN5.out.box HK5.out hoF; have HOKF : Hid ((ok = false /\ r4 = none) ∨ (ok = true /\ r4 = some o /\ OkO o /\ ObM wF wF.heap.size o osl)) := by
       rcases HOK5.out with h1 | ⟨h1, h2, h3, h4⟩
       . exact .inl h1
       . exact .inr ⟨h1, h2, h3, (gU h4 HK5.out hoF).more hzF⟩
      have HUM : Hid (cu U (inL sl3) + 1 <= cu U (inL slj)) := by
       show _ <= _; rw [HIL.out]; refine tq HDU.out ?_; cases h : inL slj (d1, d2) with
       | false => rfl
       | true => exact absurd (inL_true.1 h) HNI.out
      have HLT : Hid (LvJ p hs aF dep n level (j + 1) (inL sl3) (dm (ay p (d1, d2)) false nxl)) := by
       have h1 := HLr.out.take HD.out HZN.out (st := false) (by simp [aF]); rw [<- HIL.out] at h1; exact h1
      cases ok with
      | false =>
        have hr4 : r4 = none := by
         rcases HOKF.out with ⟨_, h1⟩ | ⟨h1, _⟩
         . exact h1
         . cases h1
        subst hr4; have HC1 : Hid (ComQ p hs aF dep (toL pre) (inL sl3) comj s4) := by
         have h1 := HCr.out.none HNCd.out HGR.out; rw [<- HIL.out] at h1; exact h1
        have HL1' : Hid (LvJ p hs aF dep n level (j + 1) (inL sl3) nxl) := by
         have h1 := HLT.out; rw [Dc HGR.out] at h1; exact h1
        have HU1 : Hid (nxl.length + 10 * cu U (inL sl3) <= 10 * cu U (inL sl)) := by
         have h1 := HUr.out; have h2 := HUM.out; show _ <= _; omega
        go_wp2_with fail; clear hwF hoF; go_roundw
        case rel => exact ⟨j + 1, s4, _, _, _, _, _, _, _, _, _, comj, sl3, nxl, _, _, _, _, _, _, rfl, rfl, by go_num, hlt, HKF.out, HKzF.out, HRF.out, HEF.out, HNF.out, HL1'.out, HC1.out, HU1.out, HXr.out, HBF.out⟩
        case measure => simp [intOf]; omega
      | true =>
        have hg2 : r4 = some o /\ OkO o /\ ObM wF wF.heap.size o osl := by
         rcases HOKF.out with ⟨h1, _⟩ | ⟨_, h1⟩
         . cases h1
         . exact h1
        obtain ⟨rfl, hoo, hom⟩ := hg2; have HOO := ah hoo; have HOM := ah hom; clear hoo hom HOKF HOK5; have HLT2 : Hid (LvJ p hs aF dep n level (j + 1) (inL sl3) (nxl ++ o.pars)) := by
         have h1 := HLT.out; rw [Ce HGR.out] at h1; exact h1
        have Z0 : wF.cell? ⟨b, off + j * 2, none⟩ = some (.int .u64 d1) := (World.cell?_of_block (hoF b (by omega))).trans Y0; have Z1 : wF.cell? ⟨b, off + j * 2 + 1, none⟩ = some (.int .u64 d2) := (World.cell?_of_block (hoF b (by omega))).trans Y1; have zF : w3.heap.size <= wF.heap.size := by omega
        go_upto_region 12 with fail
        clear hwF hoF Y0 Y1 x0 x1 x2 x3 x4 x5 x6 f0 f1 f2 f3 f4 f5' f6 HK5 HKz5 HKo5 HKx5 HE5 HR5 HN5 HB5; obtain ⟨_, _, _, _, x4, _, _⟩ := aR HKF.out
        go_still_tail 6, (by kernel_rfl)
        change wpList _ _ _ _ _ wF.drew; obtain ⟨wD, hwD⟩ : ∃ W, wF.drew = W := ⟨_, rfl⟩
        have hbD : Below wF.heap.size wF wD := by rw [<- hwD]; exact (Below.refl _ _).drew
        rw [hwD]; have HBD : Hid (Below w.heap.size w wD) := HBF.out.trans (hbD.mono HBF.out.size); have HKD := ah (HKF.out.below hbD HKF.out.lt); have HKzD := ah (HKzF.out.below hbD HKzF.out.lt); have HKoD := ah (HKoF.out.below hbD HKoF.out.lt); have HRD := ah (HRF.out.bel hbD); have HED := ah (HEF.out.bel hbD); have HND := ah (HNF.out.upon hbD); have HOD : Hid (ObM wD wD.heap.size o osl) := (HOM.out.below hbD ai).more hbD.size; have Y0 := (hbD.cell (p := ⟨b, off + j * 2, none⟩) (by show b < _; omega)).trans Z0; have Y1 := (hbD.cell (p := ⟨b, off + j * 2 + 1, none⟩) (by show b < _; omega)).trans Z1; have zD : w3.heap.size <= wD.heap.size := by have := hbD.size; omega
        clear hwD hbD HKF HKzF HKoF HRF HEF HNF HOM HBF Z0 Z1 x4; obtain ⟨fl, ml, hl7, L1, L2, L3, L4, hne, hfl, hml, hhl⟩ := HRD.out; have hcn : cnj <= 9000 := L3.len HUL.out; have HWC := ah (iB cJ cnj ccj wD.heap.size comj (d1, d2) wD L3.s ai L3.le L3.mx (by omega) L3.asc); unfold iw at HWC; simp only [az] at HWC; have HRL := ah (And.intro hne (And.intro hfl (And.intro hml hhl))); have HLs := ah (And.intro L1 (And.intro L2 (And.intro L3 L4))); clear L1 L2 L3 L4 hne hfl hml hhl; go_wp2_with fail; refine HWC.out.mono ?_; rintro e w6 ⟨com7, cA7, cc7, hasc, hmem, hlen, rfl, hwh, hlc, hcm, hb6⟩; have HB6 : Hid (Below w.heap.size w w6) := HBD.out.trans (hb6.mono HBD.out.size); have HK6 := ah (HKD.out.below hb6 HKD.out.lt); have HKz6 := ah (HKzD.out.below hb6 HKzD.out.lt); have HKo6 := ah (HKoD.out.below hb6 HKoD.out.lt); have HE6 := ah (HED.out.bel hb6); have HN6 := ah (HND.out.upon hb6); have HO6 : Hid (ObM w6 w6.heap.size o osl) := (HOD.out.below hb6 ai).more hb6.size; have HOF7 : Hid (OnF wD cJ cnj cA7 com7.length) := jF ai hwh ((hmem _).2 (.inl rfl)) (HLs.out.2.2.1.s.len aS (by omega)); have HL6 : Hid (Lst7 U w6 f5 fn5 fc5 fl /\ Lst7 U w6 m5 mn5 mc5 ml /\ Lst7 U w6 cJ cnj ccj comj /\ Lst7 U w6 hA hn hc hl7) := ⟨HLs.out.1.bel hb6, HLs.out.2.1.bel hb6, HLs.out.2.2.1.bel hb6, HLs.out.2.2.2.bel hb6⟩
        have Z0 := (hb6.cell (p := ⟨b, off + j * 2, none⟩) (by show b < _; omega)).trans Y0; have Z1 := (hb6.cell (p := ⟨b, off + j * 2 + 1, none⟩) (by show b < _; omega)).trans Y1; have z6 : wD.heap.size <= w6.heap.size := hb6.size; have HA7 := ah hasc; have HME7 := ah hmem; have HWH7 := ah hwh; obtain ⟨cn7, hcn7⟩ : ∃ m, com7.length = m := ⟨_, rfl⟩
        have HCN7 := ah hcn7; rw [hcn7] at HOF7; rw [hcn7]; clear hb6 hasc hmem hlen hwh HWC Y0 Y1 hcn7 HKD HKzD HKoD HRD HED HOD HLs; obtain ⟨_, _, _, _, x4, _, _⟩ := aR HK6.out; have f4 := HK6.out.free 4; obtain ⟨w7, hw7⟩ : ∃ W, w6.setCell ⟨w.heap.size, 4, none⟩ (.slice cA7 cn7 cc7) = W := ⟨_, rfl⟩
        have ho7 : ∀ k, k ≠ w.heap.size -> w7.heap[k]? = w6.heap[k]? := fun k hk => by rw [<- hw7]; exact Below.heap_setCell _ _ _ k hk
        have hz7 : w6.heap.size <= w7.heap.size := by rw [<- hw7]; simp
        have HB7 : Hid (Below w.heap.size w w7) := by rw [<- hw7]; exact HB6.out.setCell (p := ⟨w.heap.size, 4, none⟩) ai _
        have HK7 : Hid (Bk w7 w.heap.size 70 #[.slice pA pn pc, .string pre, .slice f5 fn5 fc5, .slice m5 mn5 mc5, .slice cA7 cn7 cc7, .slice hA hn hc, .bool s4.wr]) := by
         have h1 := HK6.out.set 4 (.slice cA7 cn7 cc7); rw [hw7] at h1; exact h1
        have HKz7 : Hid (Bk w7 (w.heap.size + 1) 70 zwC) := by rw [<- hw7]; exact HKz6.out.far (by show _ ≠ w.heap.size; omega) _
        have HKo7 : Hid (Bk w7 bo 75 #[.int .i64 o.kind, .string o.data, .slice osl.eA osl.en osl.ec, .int .u64 o.tree.1, .int .u64 o.tree.2, .slice osl.pA osl.pn osl.pc, .string o.auth, .int .i64 o.time, .string o.msg]) := by rw [<- hw7]; exact HKo6.out.far (by show _ ≠ w.heap.size; omega) _
        have HE7 : Hid (Lst7 U w7 eA3 en3 ec3 sl3) := dS HE6.out HK6.out ho7 hz7; have HO7 : Hid (ObM w7 w7.heap.size o osl) := (gU HO6.out HK6.out ho7).more hz7; have HL7 : Hid (Lst7 U w7 cA7 cn7 cc7 com7) := by
         have h1 := Be (W5 := wD) (w6 := w6) (dS HL6.out.2.2.1 HK6.out ho7 hz7) (fun k hk => ho7 k (by omega)) hz7 HDU.out HA7.out HME7.out HWH7.out hlc hcm; rw [HCN7.out] at h1; exact h1
        have HR7 : Hid (Rk7 p U w7 s4 f5 fn5 fc5 m5 mn5 mc5 cA7 cn7 cc7 hA hn hc com7) := ⟨fl, ml, hl7, dS HL6.out.1 HK6.out ho7 hz7, dS HL6.out.2.1 HK6.out ho7 hz7, HL7.out, dS HL6.out.2.2.2 HK6.out ho7 hz7, HRL.out⟩
        have HN7 : Hid (NxC w7 w.heap.size nA nn nc nxl f5 fn5 m5 mn5 cA7 cn7 eA3 en3) := by
         have h1 := HN6.out.box HK6.out ho7; exact ⟨h1.o, h1.f, h1.m, h1.c.onF (fun g hg => (mD HND.out.o g hg).2) HOF7.out, h1.e⟩
        have HC7 : Hid (ComQ p hs aF dep (toL pre) (inL sl3) com7 s4) := by
         have h1 := HCr.out.some HNCd.out HGR.out HME7.out; rw [<- HIL.out] at h1; exact h1
        have y0 : w7.cell? ⟨b, off + j * 2, none⟩ = some (.int .u64 d1) := (World.cell?_of_block (ho7 b (by omega))).trans Z0; have y1 : w7.cell? ⟨b, off + j * 2 + 1, none⟩ = some (.int .u64 d2) := (World.cell?_of_block (ho7 b (by omega))).trans Z1; have z7 : w3.heap.size <= w7.heap.size := by omega
        have HI0 := ah (jK tA 0 tc w7.heap.size [] (d1, d2) w7 (by exact ⟨rfl, fun h => by omega⟩) ai (by omega)); simp only [az] at HI0; go_wp2_with fail; clear hw7 ho7 x4 f4 Z0 Z1 HK6 HKz6 HKo6 HE6 HO6 HL6 HN6 HND HB6 HBD; refine HI0.out.mono ?_; rintro e w8 ⟨rfl, hb8⟩; have hdec : decide ((d1, d2) ∈ ([] : List Dig)) = false := by simp
        rw [hdec]; have HB8 : Hid (Below w.heap.size w w8) := HB7.out.trans (hb8.mono HB7.out.size); have HK8 := ah (HK7.out.below hb8 HK7.out.lt); have HKz8 := ah (HKz7.out.below hb8 HKz7.out.lt); have HKo8 := ah (HKo7.out.below hb8 HKo7.out.lt); have HR8 := ah (HR7.out.bel hb8); have HE8 := ah (HE7.out.bel hb8); have HL8 := ah (HL7.out.bel hb8); have HN8 := ah (HN7.out.upon hb8); have HO8 : Hid (ObM w8 w8.heap.size o osl) := (HO7.out.below hb8 ai).more hb8.size; have HPL : Hid (o.pars.length = osl.pn) := HO8.out.plen; have HP8 : Hid (o.pars.length <= 8) := (gQ HOO.out).1; have HNL : Hid (nxl.length = nn) := by
         have h1 := HN8.out.o.1; have h2 := (xc HN8.out.o).len aS (by omega); exact h2
        have HUN : Hid (cu U (inL sl) <= 9000) := Nat.le_trans (lH _ _) HUL.out; have HXU : Hid (∀ x ∈ nxl ++ o.pars, x ∈ U) := fun x hx => by
         rcases List.mem_append.1 hx with hx | hx
         . exact HXr.out x hx
         . refine HUC.out _ _ _ (fG HGR.out).1 (List.mem_append_right _ ?_)
           rw [if_pos (fG HGR.out).2]; exact List.mem_cons_of_mem _ hx
        have HU8 : Hid ((nxl ++ o.pars).length + 10 * cu U (inL sl3) <= 10 * cu U (inL sl)) := by
         have h1 := HUr.out; have h2 := HUM.out; have h3 := HP8.out; show _ <= _; rw [List.length_append]; omega
        clear hb8 HI0 hdec y0 y1 HK7 HKz7 HKo7 HR7 HE7 HL7 HN7 HO7 HB7; obtain ⟨_, _, _, _, _, k5, _⟩ := HKo8.out.nine; by_cases hq0 : osl.pn = 0
        case pos =>
         have hpe : o.pars = [] := List.eq_nil_of_length_eq_zero (by rw [HPL.out]; exact hq0); rw [hpe, List.append_nil] at HXU HU8 HLT2; have HQ0 := ah hq0; clear hpe hq0
         go_wp2_with (at_builtin; refine kP (.tmp 73) (.tmp 75) 24 rfl ?_)
         refine aC ?_; refine yF rfl (.tmp 73) (.tmp 75) 24 rfl i0 Tryz.underlying24 Hi.out nA nn nc (FM HN8.out.o) rfl osl.pA osl.pc (by show Value.slice _ _ _ = _; rw [HQ0.out]) ?_; go_wp2_with fail; go_roundw
         case rel => exact ⟨j + 1, s4, _, _, _, _, _, _, _, _, _, com7, sl3, nxl, _, _, _, _, _, _, rfl, rfl, by go_num, hlt, HK8.out, HKz8.out, HR8.out, HE8.out, HN8.out, HLT2.out, HC7.out, HU8.out, HXU.out, HB8.out⟩
         case measure => simp [intOf]; omega
        case neg =>
         go_wp2_with (at_builtin; refine kP (.tmp 73) (.tmp 75) 24 rfl ?_)
         refine aC ?_; refine yK (base := w.heap.size) (size := 2) rfl (.tmp 73) (.tmp 75) 24 rfl 42 i0 _ 16 Tryz.underlying24 Hi.out Hz0.out Hz1.out Hz2.out rfl (by decide) nA nn nc (flat dgC nxl) rfl HN8.out.o _ osl.pA osl.pn osl.pc (flat dgC o.pars) rfl HO8.out.p (fI _) (by omega) (by have h1 := HNL.out; have h2 := HU8.out; have h3 := HUN.out; have h4 := HPL.out; rw [List.length_append] at h2; unfold maxLen; omega) (by have h1 := HNL.out; have h2 := HU8.out; have h3 := HUN.out; have h4 := HPL.out; rw [List.length_append] at h2; omega) HB8.out.size ?_; intro nA9 nc9 w9 ho9 hg9 _ _ hd9; rw [<- bT] at ho9; have hs9 : w8.heap.size <= w9.heap.size := hg9.size; have hrb : ∀ g, bkO nA = some g -> w.heap.size <= g := fun g e => (mD HN8.out.o g e).1; have HB9 : Hid (Below w.heap.size w w9) := HB8.out.grown hg9 HB8.out.size hrb; have hnb : ∀ {b' : Nat} {cs : Array Value}, Bk w8 b' 70 cs -> some b' ≠ bkO nA := fun {b' cs} hK e => by
          have h1 := HN8.out.o.2; rcases h1 with ⟨hv, _⟩ | ⟨g, cap, cur, hv, _, h2, _⟩
          . simp at hv; rw [hv.1] at e; cases e
          . simp at hv
            rw [hv.1] at e; have e2 : b' = g := Option.some.inj e; subst e2; rw [show w8.heap[b']? = _ from hK] at h2; injection h2 with h2; injection h2 with _ h2; exact absurd h2 (by decide)
         have HK9 := ah (HK8.out.grown hg9 (hnb HK8.out)); have HKz9 := ah (HKz8.out.grown hg9 (hnb HKz8.out)); have HR9 : Hid (Rk7 p U w9 s4 f5 fn5 fc5 m5 mn5 mc5 cA7 cn7 cc7 hA hn hc com7) := Bb HR8.out HC7.out.wh hg9 hs9 HN8.out.f HN8.out.m HN8.out.c; have HE9 : Hid (Lst7 U w9 eA3 en3 ec3 sl3) := jv HE8.out hg9 HN8.out.e hs9; have HN9 : Hid (NxC w9 w.heap.size nA9 (nn + osl.pn) nc9 (nxl ++ o.pars) f5 fn5 m5 mn5 cA7 cn7 eA3 en3) := by
          obtain ⟨q1, q2, q3, L1, L2, L3, _⟩ := HR8.out.lists; exact ⟨ho9, HN8.out.f.app (jJ L1) hd9, HN8.out.m.app (jJ L2) hd9, HN8.out.c.app (jJ HL8.out) hd9, HN8.out.e.app (jJ HE8.out) hd9⟩
         clear ho9 hg9 hd9 hnb hrb hs9; go_wp2_with fail; go_roundw
         case rel => exact ⟨j + 1, s4, _, _, _, _, _, _, _, _, _, com7, sl3, nxl ++ o.pars, _, _, _, _, _, _, rfl, rfl, by go_num, hlt, HK9.out, HKz9.out, HR9.out, HE9.out, HN9.out, HLT2.out, HC7.out, HU8.out, HXU.out, HB9.out⟩
         case measure => simp [intOf]; omega
theorem vo : ∀ k, qQ k
 | 0 => fun p U pA pn pc pre fA fn fc mA mn mc cA cn cc hA hn hc com s hs dep n lA ln lc level eA en ec sl tA tc z w _ _ _ _ _ _ _ _ _ _ _ _ _ _ h _ _ => by omega
 | k + 1 => Bw k (vo k)
end
section
open Go.Maps
theorem Bi {o : Ob} (h : o.kind = 3) : o.tree ∈ dX o := by
 unfold dX; refine List.mem_append_right _ ?_; rw [if_pos h]; exact List.mem_cons_self
def yu (p : List Itm) (U : List Dig) (pA : OA) (pn pc : Nat) (pre : ByteArray) (hs : List Dig) (dep : Int) (w : World) (e : Ending) (w' : World) : Prop :=
 ∃ (s' sc : RkS) (fA : OA) (fn fc : Nat) (mA : OA) (mn mc : Nat) (cA : OA) (cn cc : Nat) (hA : OA) (hn hc : Nat) (com sl : List Dig) (eA : OA) (en ec : Nat),
  e = .returned (.tuple #[rkV pA pn pc pre fA fn fc mA mn mc cA cn cc hA hn hc s'.wr, .slice eA en ec]) /\ Rk7 p U w' s' fA fn fc mA mn mc cA cn cc hA hn hc com /\ Lst7 U w' eA en ec sl ∧
  ComQ p hs aF dep (toL pre) (inL sl) com sc /\ (∀ d, inL sl d = true ↔ NC p hs aF dep d) /\ (∀ d, s'.ne d = true ↔ Need p hs aF dep (toL pre) d) /\ (s'.wr = true ↔ bZ p hs aF dep (toL pre)) /\ Below w.heap.size w w'
theorem Ch (p : List Itm) (U : List Dig) (pA : OA) (pn pc : Nat) (pre : ByteArray) (hs : List Dig) (dep : Int) (lA : OA) (ln lc : Nat) (tA : OA) (tc : Nat) (w : World)
  (hp : Sl w w.heap.size 3 pA pn (flat itC p)) (hpn : pn <= 40) (hpo : PlOk p) (hl : Sl w w.heap.size 2 lA ln (flat dgC hs)) (hln : ln <= 1000000) (hU : U.length <= 9000) (hUw : ∀ x ∈ U, WfD x) (hUc : ∀ x o y, ay p x = some o -> y ∈ dX o -> y ∈ U) (hhu : ∀ x ∈ hs, x ∈ U) (hd0 : 0 <= dep) (hd1 : dep <= 9223372036854775807) (hpre : pre.size <= 100) :
  Calls Tryz.prog 30 #[.slice pA pn pc, .slice lA ln lc, .agg #[.int .i64 dep, .string pre], .slice tA 0 tc] w (yu p U pA pn pc pre hs dep w) := by
 have HPO := ah hpo; have HUL := ah hU; have HUW := ah hUw; have HUC := ah hUc; have HP := ah hp; have HLV := ah hl; have HLU := ah hhu; have HPRE := ah hpre; have HD0 := ah hd0; have HD1 := ah hd1; obtain ⟨W0, hW0⟩ : ∃ W, ((w.alloc (.cells #[.int .i64 dep, .string pre] 26)).alloc (.cells #[.slice none 0 0, .string ⟨#[]⟩, .slice none 0 0, .slice none 0 0, .slice none 0 0, .slice none 0 0, .bool false] 70)) = W := ⟨_, rfl⟩
 have HB0 : Hid (Below w.heap.size w W0) := by rw [<- hW0]; exact (((Below.refl _ w).alloc ai _).alloc (by simp) _)
 have HK0 : Hid (Bk W0 w.heap.size 26 #[.int .i64 dep, .string pre]) := by rw [<- hW0]; exact (Bk.new w _ _).alloc _
 have HKw : Hid (Bk W0 (w.heap.size + 1) 70 zwC) := by
  have := Bk.new (w.alloc (.cells #[.int .i64 dep, .string pre] 26)) 70 #[.slice none 0 0, .string ⟨#[]⟩, .slice none 0 0, .slice none 0 0, .slice none 0 0, .slice none 0 0, .bool false]; rw [World.size_alloc] at this; rw [<- hW0]; exact this
 obtain ⟨W1, hW1⟩ : ∃ W, W0.alloc (.cells #[] 42) = W := ⟨_, rfl⟩
 have hb1 : Below W0.heap.size W0 W1 := by rw [<- hW1]; exact (Below.refl _ W0).alloc ai _
 have HB1 : Hid (Below w.heap.size w W1) := HB0.out.trans (hb1.mono HB0.out.size); have HKw1 := ah (HKw.out.below hb1 HKw.out.lt); have hsz0 : W0.heap.size = w.heap.size + 1 + 1 := by rw [<- hW0]; simp
 obtain ⟨z, hz⟩ : ∃ z : Int, (if dep = 0 then -1 else dep) = z := ⟨_, rfl⟩
 have HLN : Hid (LvN dep 0 z) := by
  show LvN _ _ _; unfold LvN; by_cases h : dep = 0
  . rw [if_pos h] at hz; exact .inl ⟨h, by omega⟩
  . rw [if_neg h] at hz; exact .inr ⟨by omega, by omega, by omega⟩
 have hlm : lvM U [] hs <= 18001 := by
  have := lH U (inL []); unfold lvM; split <;> omega
 have HC := ah (vo 20000 p U pA pn pc pre none 0 0 none 0 0 none 0 0 none 0 0 [] ⟨fun _ => false, fun _ => false, false⟩ hs dep 0 lA ln lc hs (some ⟨w.heap.size + 1 + 1, 0, none⟩) 0 0 [] tA tc z W1 ((hp.below HB1.out ai).more HB1.out.size)
  ⟨[], [], [], Lst7.nil U W1, Lst7.nil U W1, Lst7.nil U W1, Lst7.nil U W1, by simp, by simp, by simp, by simp⟩ hpn hpo hU hUw hUc ((hl.below HB1.out ai).more HB1.out.size) hhu hln ⟨⟨rfl, fun h => by omega⟩, Nat.le_refl _, Nat.zero_le _, List.Pairwise.nil, fun d h => by cases h⟩ (by rw [wO]; exact LvI.start p hs aF dep) (by rw [wO]; exact ComQ.start p hs aF dep (toL pre)) HLN.out (by omega) (by omega) hd1)
 unfold qN at HC; simp only [rkV] at HC; have HW0 := ah hW0; have HW1 := ah hW1; obtain ⟨k0, k1, _, _⟩ := HK0.out.two; rw [<- hW0] at k0 k1; clear hp hpo hl hU hUw hUc hhu hd1 hpre hb1 hW0 hW1 hlm HKw HLN; have hway : (dep = 0 /\ z = -1) ∨ (dep ≠ 0 /\ z = dep) := by
  by_cases h : dep = 0
  . rw [if_pos h] at hz; exact .inl ⟨h, hz.symm⟩
  . rw [if_neg h] at hz; exact .inr ⟨h, hz.symm⟩
 clear hz
 go_enter Tryz.func30, Tryz.ntmps30
 rcases hway with ⟨h1, h2⟩ | ⟨h1, h2⟩
 case' inl =>
  have hb : (dep == 0) = true := by rw [h1]; rfl
  rw [h2] at HC; clear h1 h2; go_wp2_with fail
 case' inr =>
  have hb : (dep == 0) = false := by rw [beq_eq_false_iff_ne]; exact h1
  rw [h2] at HC; clear h1 h2; go_wp2_with fail
 all_goals
  rw [HW0.out, HW1.out]; refine HC.out.mono ?_; rintro e w3 ⟨s3, f3, fn3, fc3, m3, mn3, mc3, c3, cn3, cc3, com, sl, eA, en, ec, rfl, hR3, hE3, hC3, hS3, hb3⟩; have HB3 : Hid (Below w.heap.size w w3) := HB1.out.trans (hb3.mono HB1.out.size); have HKw3 := ah (HKw1.out.below hb3 HKw1.out.lt); have HC3 := ah hC3; have HS3 := ah hS3; have z3 : w.heap.size + 1 < w3.heap.size := HKw3.out.lt; obtain ⟨W4, hW4⟩ : ∃ W, w3.alloc (.cells #[.slice pA pn pc, .string pre, .slice f3 fn3 fc3, .slice m3 mn3 mc3, .slice c3 cn3 cc3, .slice none 0 0, .bool s3.wr] 70) = W := ⟨_, rfl⟩
  have hb4 : Below w3.heap.size w3 W4 := by rw [<- hW4]; exact (Below.refl _ w3).alloc ai _
  have HB4 : Hid (Below w.heap.size w W4) := HB3.out.trans (hb4.mono HB3.out.size); have HK4 : Hid (Bk W4 w3.heap.size 70 #[.slice pA pn pc, .string pre, .slice f3 fn3 fc3, .slice m3 mn3 mc3, .slice c3 cn3 cc3, .slice none 0 0, .bool s3.wr]) := by rw [<- hW4]; exact Bk.new w3 _ _
  have HKw4 := ah (HKw3.out.below hb4 HKw3.out.lt); have HR4 := ah (hR3.bel hb4); have HE4 := ah (hE3.bel hb4); have HW4 := ah hW4; clear hb3 hR3 hE3 hC3 hS3 hb4 hW4 HC k0 k1; go_wp2_with fail; rw [HW4.out]; obtain ⟨bb, hbb⟩ : ∃ b, b = w3.heap.size := ⟨_, rfl⟩
  rw [<- hbb] at HK4 z3; rw [<- hbb]; clear hbb HW4
  go_loopw [13] (fun i wr => ∃ (j : Nat) (sj : RkS) (fJ : OA) (fnj fcj : Nat) (mJ : OA) (mnj mcj : Nat) (hJ : OA) (hnj hcj : Nat), i = .int .i64 (j : Int) /\ j <= cn3 /\ Hid (VisQ p hs aF dep (toL pre) com s3 sj j) /\ Hid (Bk wr bb 70 #[.slice pA pn pc, .string pre, .slice fJ fnj fcj, .slice mJ mnj mcj, .slice c3 cn3 cc3, .slice hJ hnj hcj, .bool sj.wr]) /\ Hid (Bk wr (w.heap.size + 1) 70 zwC) /\ Hid (Rk7 p U wr sj fJ fnj fcj mJ mnj mcj c3 cn3 cc3 hJ hnj hcj com) /\ Hid (Lst7 U wr eA en ec sl) /\ Hid (Below w.heap.size w wr)) (fun i _ => cn3 - (intOf i).toNat)
  case atStart => exact ⟨0, s3, _, _, _, _, _, _, _, _, _, rfl, Nat.zero_le _, VisQ.start HC3.out, HK4.out, HKw4.out, HR4.out, HE4.out, HB4.out⟩
  case round =>
   obtain ⟨j, sj, fJ, fnj, fcj, mJ, mnj, mcj, hJ, hnj, hcj, rfl, hj, hVr, hKr, hKwr, hRr, hEr, hBr⟩ := hrel; have HVr := ah hVr.out; have HKr := ah hKr.out; have HKwr := ah hKwr.out; have HRr := ah hRr.out; have HEr := ah hEr.out; have HBr := ah hBr.out; have zr : w.heap.size + 1 < wr.heap.size := HKwr.out.lt; clear hVr hKr hKwr hRr hEr hBr HK4 HKw4 HR4 HE4 HB4; obtain ⟨fl, ml, hl7, L1, L2, L3, L4, _⟩ := HRr.out.lists; have hcl : com.length = cn3 := L3.s.len aS (by omega); have hcn : cn3 <= 9000 := L3.len HUL.out; obtain ⟨x0, x1, x2, x3, x4, x5, x6⟩ := aR HKr.out; by_cases hlt : j < cn3
   case neg =>
    have hltz : ¬ (j : Int) < (cn3 : Int) := by omega
    have HFIN := ah ((show VisQ p hs aF dep (toL pre) com s3 sj com.length from by rw [hcl, show cn3 = j from by omega]; exact HVr.out).fin HC3.out HS3.out); clear L1 L2 L3 L4 hcl; obtain ⟨v0, v1, v2, v3, v4, v5, v6⟩ := aR HKwr.out; obtain ⟨f0, f1, f2, f3, f4, f5, f6⟩ := fr7 HKwr.out; have hne1 : bb ≠ w.heap.size + 1 := by omega
    have hne2 : w.heap.size + 1 ≠ bb := by omega
    go_wp2_with fail; refine bodyPost_ret (pU Tryz.results30 rfl (dE HKwr.out _ _ _ _ _ _ _) rfl) rfl ?_; have hBF := dD HBr.out (b := w.heap.size + 1) (by omega) (.slice pA pn pc) (.string pre) (.slice fJ fnj fcj) (.slice mJ mnj mcj) (.slice c3 cn3 cc3) (.slice hJ hnj hcj) (.bool sj.wr); have ho9 : ∀ k, k ≠ w.heap.size + 1 -> _ = wr.heap[k]? := fun k hk => cK (b' := w.heap.size + 1) hk (.slice pA pn pc) (.string pre) (.slice fJ fnj fcj) (.slice mJ mnj mcj) (.slice c3 cn3 cc3) (.slice hJ hnj hcj) (.bool sj.wr); exact ⟨sj, s3, _, _, _, _, _, _, _, _, _, _, _, _, com, sl, _, _, _, rfl, gz HRr.out HKwr.out ho9 (by simp), dS HEr.out HKwr.out ho9 (by simp), HC3.out, HS3.out, HFIN.out.1, HFIN.out.2, hBF⟩
   case pos =>
    have hltz : (j : Int) < (cn3 : Int) := by omega
    obtain ⟨b, off, d, rfl, hbB, hd, y0, y1⟩ := L3.s.dg hlt; have HD := ah hd; have hcd := (HC3.out.com d).1 (List.mem_of_getElem? hd); have HCD := ah hcd; clear hd L1 L2 L3 L4 hcl hcd; obtain ⟨d1, d2⟩ := d; simp only at y0 y1; have HG := ah (oK pA pn pc w.heap.size p (d1, d2) wr (HP.out.below HBr.out ai) HBr.out.size (by omega) HPO.out); unfold mR at HG; simp only [az] at HG; go_wp2_with fail; refine HG.out.mono ?_; rintro e w5 ⟨hq, hb5⟩; have HB5 : Hid (Below w.heap.size w w5) := HBr.out.trans (hb5.mono HBr.out.size); have HK5 := ah (HKr.out.below hb5 HKr.out.lt); have HKw5 := ah (HKwr.out.below hb5 HKwr.out.lt); have HR5 := ah (HRr.out.bel hb5); have HE5 := ah (HEr.out.bel hb5); clear hb5 HG x0 x1 x2 x3 x4 x5 x6 y0 y1 HKr HKwr HRr HEr HBr; obtain ⟨hsn, o', hg', hk'⟩ := HCD.out; rcases hq with ⟨o, s, hg, hok, rfl, hom⟩ | ⟨hg, _⟩
    case inr => rw [hg'] at hg; cases hg
    rw [hg'] at hg; injection hg with hg; subst hg; have HGG := ah hg'; have HKD := ah hk'; have HTU : Hid (o'.tree ∈ U) := HUC.out _ _ _ hg' (Bi hk'); clear hg' hk' hsn hok hom; simp only [obV, obC]; obtain ⟨W6, hW6⟩ : ∃ W, w5.alloc (.cells #[.int .i64 o'.kind, .string o'.data, .slice s.eA s.en s.ec, .int .u64 o'.tree.1, .int .u64 o'.tree.2, .slice s.pA s.pn s.pc, .string o'.auth, .int .i64 o'.time, .string o'.msg] 75) = W := ⟨_, rfl⟩
    have hb6 : Below w5.heap.size w5 W6 := by rw [<- hW6]; exact (Below.refl _ w5).alloc ai _
    have HKo6 : Hid (Bk W6 w5.heap.size 75 #[.int .i64 o'.kind, .string o'.data, .slice s.eA s.en s.ec, .int .u64 o'.tree.1, .int .u64 o'.tree.2, .slice s.pA s.pn s.pc, .string o'.auth, .int .i64 o'.time, .string o'.msg]) := by rw [<- hW6]; exact Bk.new w5 _ _
    have HB6 : Hid (Below w.heap.size w W6) := HB5.out.trans (hb6.mono HB5.out.size); have HK6 := ah (HK5.out.below hb6 HK5.out.lt); have HKw6 := ah (HKw5.out.below hb6 HKw5.out.lt); have HR6 := ah (HR5.out.bel hb6); have HE6 := ah (HE5.out.bel hb6); obtain ⟨_, _, _, q3, q4, _, _, _, _⟩ := HKo6.out.nine; obtain ⟨x0, x1, x2, x3, x4, x5, x6⟩ := aR HK6.out; rw [<- hW6] at q3 q4 x0 x1 x2 x3 x4 x5 x6; have HW6 := ah hW6; have hem : ByteArray.size ⟨#[]⟩ = 0 := rfl; have HC6 := ah (vv 10000 p U pA pn pc pre fJ fnj fcj mJ mnj mcj (some ⟨b, off, none⟩) cn3 cc3 hJ hnj hcj com sj o'.tree ⟨#[]⟩ W6 ((HP.out.below HB6.out ai).more HB6.out.size) HR6.out hpn HPO.out HTU.out HUL.out (HUW.out _ HTU.out) HPRE.out HUC.out (by have := xe (s := sj) (q := toL ⟨#[]⟩) HUL.out (pre := toL pre) HPRE.out; omega) (by have := xe (s := sj) (q := toL ⟨#[]⟩) HUL.out (pre := toL pre) HPRE.out; rw [hem]; omega)); unfold qU at HC6; simp only [rkV, az] at HC6; clear hW6 hb6 hem HK5 HKw5 HR5 HE5 HB5; go_wp2_with fail; rw [HW6.out]; refine HC6.out.mono ?_; rintro e w9 ⟨s9, f9, fn9, fc9, m9, mn9, mc9, h9, hn9, hc9, rfl, hR9, hQ9, hb9⟩; have HB9 : Hid (Below w.heap.size w w9) := HB6.out.trans (hb9.mono HB6.out.size); have HK9 := ah (HK6.out.below hb9 HK6.out.lt); have HKw9 := ah (HKw6.out.below hb9 HKw6.out.lt); have HR9 := ah hR9; have HE9 := ah (HE6.out.bel hb9); have HV9 := ah (HVr.out.step HD.out HGG.out ((HS3.out _).1 HCD.out.1) HKD.out hQ9); clear hR9 hQ9 hb9 HC6 x0 x1 x2 x3 x4 x5 x6 q3 q4 HW6 HK6 HKw6 HR6 HE6 HB6; obtain ⟨x0, x1, x2, x3, x4, x5, x6⟩ := aR HK9.out; obtain ⟨f0, f1, f2, f3, f4, f5, f6⟩ := fr7 HK9.out; obtain ⟨wF, hwF⟩ : ∃ W, (((((((w9.setCell ⟨bb, 0, none⟩ (.slice pA pn pc)).setCell ⟨bb, 1, none⟩ (.string pre)).setCell ⟨bb, 2, none⟩ (.slice f9 fn9 fc9)).setCell ⟨bb, 3, none⟩ (.slice m9 mn9 mc9)).setCell ⟨bb, 4, none⟩ (.slice (some ⟨b, off, none⟩) cn3 cc3)).setCell ⟨bb, 5, none⟩ (.slice h9 hn9 hc9)).setCell ⟨bb, 6, none⟩ (.bool s9.wr)) = W := ⟨_, rfl⟩
    have HBF : Hid (Below w.heap.size w wF) := by rw [<- hwF]; exact dD HB9.out (by omega) (.slice pA pn pc) (.string pre) (.slice f9 fn9 fc9) (.slice m9 mn9 mc9) (.slice (some ⟨b, off, none⟩) cn3 cc3) (.slice h9 hn9 hc9) (.bool s9.wr)
    have HKF : Hid (Bk wF bb 70 #[.slice pA pn pc, .string pre, .slice f9 fn9 fc9, .slice m9 mn9 mc9, .slice (some ⟨b, off, none⟩) cn3 cc3, .slice h9 hn9 hc9, .bool s9.wr]) := by rw [<- hwF]; exact dE HK9.out _ _ _ _ _ _ _
    have HKwF : Hid (Bk wF (w.heap.size + 1) 70 zwC) := by rw [<- hwF]; exact dW HKw9.out (by omega) _ _ _ _ _ _ _
    have hzF : w9.heap.size <= wF.heap.size := by rw [<- hwF]; simp
    have hoF : ∀ k, k ≠ bb -> wF.heap[k]? = w9.heap[k]? := fun k hk => by rw [<- hwF]; exact cK (b' := bb) hk (.slice pA pn pc) (.string pre) (.slice f9 fn9 fc9) (.slice m9 mn9 mc9) (.slice (some ⟨b, off, none⟩) cn3 cc3) (.slice h9 hn9 hc9) (.bool s9.wr)
    have HRF : Hid (Rk7 p U wF s9 f9 fn9 fc9 m9 mn9 mc9 (some ⟨b, off, none⟩) cn3 cc3 h9 hn9 hc9 com) := gz HR9.out HK9.out hoF hzF; have HEF : Hid (Lst7 U wF eA en ec sl) := dS HE9.out HK9.out hoF hzF; go_wp2_with fail; clear hwF hoF; go_roundw
    case rel => exact ⟨j + 1, s9, _, _, _, _, _, _, _, _, _, by go_num, hlt, HV9.out, HKF.out, HKwF.out, HRF.out, HEF.out, HBF.out⟩
    case measure => simp [intOf]; omega
end
section
open Go.Maps
def yg (p : List Itm) (hs : List Dig) (dep : Int) (pre : ByteArray) (w : World) (e : Ending) (w' : World) : Prop :=
 ∃ l edge z A c A2 c2, e = .returned (.tuple #[.slice A l.length c, .slice A2 edge.length c2, .int .i64 z]) /\ NdR 2 4 9 p hs dep (toL pre) l edge z /\ (Sl w' w'.heap.size 2 A l.length (flat dgC l) /\ Sl w' w'.heap.size 2 A2 edge.length (flat dgC edge)) /\ (∀ d ∈ l, WfD d) /\ (l.length <= c /\ c <= maxLen /\ edge.length <= c2 /\ c2 <= maxLen) /\ l.length <= 9000 /\ edge.length <= 9000 /\ Below w.heap.size w w'
theorem jL (w : World) (B size : Nat) (A : OA) : Sl w B size A 0 [] := ⟨by simp, fun h => by omega⟩
theorem lY {p : List Itm} {hs : List Dig} {dep : Int} {pre : ByteArray} {w w' : World} {z : Int} (A A2 : OA) (h : NdR 2 4 9 p hs dep (toL pre) [] [] z) (hb : Below w.heap.size w w') : yg p hs dep pre w (.returned (.tuple #[.slice A 0 0, .slice A2 0 0, .int .i64 z])) w' :=
 ⟨[], [], z, A, 0, A2, 0, rfl, h, ⟨jL _ _ _ _, jL _ _ _ _⟩, (fun d h => by cases h), ⟨Nat.le_refl _, Nat.zero_le _, Nat.le_refl _, Nat.zero_le _⟩, Nat.zero_le _, Nat.zero_le _, hb⟩
theorem rY (p : List Itm) (pA : OA) (pn pc : Nat) (hs : List Dig) (hA : OA) (hn hc : Nat) (dep : Int) (pre : ByteArray) (B : Nat) (w : World)
  (h0 : Sl w B 3 pA pn (flat itC p)) (h1 : Sl w B 2 hA hn (flat dgC hs)) (hB : B <= w.heap.size) (hpo : PlOk p) (hpn : pn <= 40) (hh : ∀ d ∈ hs, WfD d) (hhn : hn <= 8) (hdep : dep <= 9223372036854775807) :
  Calls Tryz.prog 10 #[.slice pA pn pc, .slice hA hn hc, scV dep pre] w (yg p hs dep pre w) := by
 have HPO := ah hpo; have HDP := ah hdep; have hpl : p.length = pn := h0.len cO (by omega); have hhl : hs.length = hn := h1.len aS (by omega); obtain ⟨U, hUd⟩ : ∃ U, reU p hs = U := ⟨_, rfl⟩
 have HUL : Hid (U.length <= 9000) := by rw [<- hUd]; exact Ey hpo (by omega) (by omega)
 have HUW : Hid (∀ x ∈ U, WfD x) := by rw [<- hUd]; exact fun x hx => FD hpo hh hx
 have HUC : Hid (∀ x o y, ay p x = some o -> y ∈ dX o -> y ∈ U) := by rw [<- hUd]; exact fun x o y g hy => ED hpo g hy
 have HHU : Hid (∀ x ∈ hs, x ∈ U) := by rw [<- hUd]; exact fun x hx => List.mem_append_left _ hx
 obtain ⟨W0, hW0⟩ : ∃ W, w.alloc (.cells #[.int .i64 dep, .string pre] 26) = W := ⟨_, rfl⟩
 have hb0 : Below w.heap.size w W0 := by rw [<- hW0]; exact (Below.refl _ w).alloc ai _
 have HB0 := ah hb0; have HK0 : Hid (Bk W0 w.heap.size 26 #[.int .i64 dep, .string pre]) := by rw [<- hW0]; exact Bk.new w _ _
 have HP0 : Hid (Sl W0 W0.heap.size 3 pA pn (flat itC p)) := (h0.below hb0 hB).more (Nat.le_trans hB hb0.size); have HH0 : Hid (Sl W0 W0.heap.size 2 hA hn (flat dgC hs)) := (h1.below hb0 hB).more (Nat.le_trans hB hb0.size); have HCK := ah (Cb dep pre W0); have HW0 := ah hW0; obtain ⟨x0, x1, _, _⟩ := HK0.out.two; rw [<- hW0] at x0 x1; unfold scV at HCK ⊢; clear hpo hh h0 h1 hUd hW0 hb0 hdep
 go_enter Tryz.func10, Tryz.ntmps10
 go_wp2_with fail; rw [HW0.out]; refine HCK.out.mono ?_; rintro e w1 ⟨rfl, hb1⟩; have HB1 : Hid (Below w.heap.size w w1) := HB0.out.trans (hb1.mono HB0.out.size); have HP1 : Hid (Sl w1 w1.heap.size 3 pA pn (flat itC p)) := (HP0.out.below hb1 ai).more hb1.size; have HH1 : Hid (Sl w1 w1.heap.size 2 hA hn (flat dgC hs)) := (HH0.out.below hb1 ai).more hb1.size; have HK1 := ah (HK0.out.below hb1 HK0.out.lt); clear hb1 HCK HB0 HP0 HH0 HK0 x0 x1 HW0; have hsz : pre.size = (toL pre).length := rfl; by_cases hd0 : dep < 0
 case pos =>
  have hv : scE dep pre = 2 := by unfold scE; rw [if_pos hd0]
  have HN : Hid (NdR 2 4 9 p hs dep (toL pre) [] [] 2) := .range hd0; rw [hv]; clear hd0; go_wp2_with fail; refine bodyPost_ret (results_tmp3 rfl _ _ _) rfl ?_; exact lY _ _ HN.out ((HB1.out.alloc HB1.out.size _).alloc (HB1.out.alloc HB1.out.size _).size _)
 by_cases hp1 : 100 < pre.size
 case pos =>
  have hv : scE dep pre = 4 := by unfold scE; rw [if_neg hd0, if_pos hp1]
  have HN : Hid (NdR 2 4 9 p hs dep (toL pre) [] [] 4) := .limit (by omega) (by omega); rw [hv]; clear hd0 hp1; go_wp2_with fail; refine bodyPost_ret (results_tmp3 rfl _ _ _) rfl ?_; exact lY _ _ HN.out ((HB1.out.alloc HB1.out.size _).alloc (HB1.out.alloc HB1.out.size _).size _)
 have hv : scE dep pre = 0 := by unfold scE; rw [if_neg hd0, if_neg hp1]
 have HD0 : Hid (0 <= dep) := by show _ <= _; omega
 have HPL : Hid ((toL pre).length <= 100) := by show _ <= _; omega
 obtain ⟨W2, hW2⟩ : ∃ W, w1.alloc (.cells #[] 42) = W := ⟨_, rfl⟩
 have hb2 : Below w1.heap.size w1 W2 := by rw [<- hW2]; exact (Below.refl _ w1).alloc ai _
 have HB2 : Hid (Below w.heap.size w W2) := HB1.out.trans (hb2.mono HB1.out.size); have HP2 : Hid (Sl W2 W2.heap.size 3 pA pn (flat itC p)) := (HP1.out.below hb2 ai).more hb2.size; have HH2 : Hid (Sl W2 W2.heap.size 2 hA hn (flat dgC hs)) := (HH1.out.below hb2 ai).more hb2.size; have HV := ah (Ch p U pA pn pc pre hs dep hA hn hc (some ⟨w1.heap.size, 0, none⟩) 0 W2 HP2.out hpn HPO.out HH2.out (by omega) HUL.out HUW.out HUC.out HHU.out HD0.out HDP.out (by omega)); unfold yu at HV; simp only [rkV] at HV; rw [hv]; have HW2 := ah hW2; obtain ⟨x0, x1, _, _⟩ := HK1.out.two; clear hd0 hp1 hv hb2 hW2 hsz HB1 HP1 HH1; go_wp2_with fail; rw [HW2.out]; refine HV.out.mono ?_; rintro e w3 ⟨s4, sc, f4, fn4, fc4, m4, mn4, mc4, c4, cn4, cc4, h4, hn4, hc4, com, sl, eA, en, ec, rfl, hR3, hE3, hC3, hS3, hN3, hW3, hb3⟩; have HB3 : Hid (Below w.heap.size w w3) := HB2.out.trans (hb3.mono HB2.out.size); have HP3 : Hid (Sl w3 w3.heap.size 3 pA pn (flat itC p)) := (HP2.out.below hb3 ai).more hb3.size; obtain ⟨wb, hwb⟩ : ∃ b, s4.wr = b := ⟨_, rfl⟩
 rw [hwb] at hW3; rw [hwb]; clear hwb; have HCQ := ah hC3; have HSN := ah hS3; have HNE := ah hN3; have HWR := ah hW3; obtain ⟨W4, hW4⟩ : ∃ W, w3.alloc (.cells #[.slice pA pn pc, .string pre, .slice f4 fn4 fc4, .slice m4 mn4 mc4, .slice c4 cn4 cc4, .slice h4 hn4 hc4, .bool wb] 70) = W := ⟨_, rfl⟩
 have hb4 : Below w3.heap.size w3 W4 := by rw [<- hW4]; exact (Below.refl _ w3).alloc ai _
 have HB4 : Hid (Below w.heap.size w W4) := HB3.out.trans (hb4.mono HB3.out.size); have HK4 : Hid (Bk W4 w3.heap.size 70 #[.slice pA pn pc, .string pre, .slice f4 fn4 fc4, .slice m4 mn4 mc4, .slice c4 cn4 cc4, .slice h4 hn4 hc4, .bool wb]) := by rw [<- hW4]; exact Bk.new w3 _ _
 have HP4 : Hid (Sl W4 W4.heap.size 3 pA pn (flat itC p)) := (HP3.out.below hb4 ai).more hb4.size; have HR4 := ah (hR3.bel hb4); have HE4 := ah (hE3.bel hb4); have HW4 := ah hW4; obtain ⟨bb, hbb⟩ : ∃ b, b = w3.heap.size := ⟨_, rfl⟩
 obtain ⟨fl, ml, hl7, L1, L2, L3, L4, hne, hfl, hml, hhl7⟩ := HR4.out.lists; have hml0 : ml.length = mn4 := L2.s.len aS (by omega); have hcl : com.length = cn4 := L3.s.len aS (by omega); have hcn : cn4 <= 9000 := L3.len HUL.out; have hfl0 : fl.length = fn4 := L1.s.len aS (by omega); have hfn : fn4 <= 9000 := L1.len HUL.out; have HMN : Hid (0 < mn4 -> dY p hs aF dep (toL pre)) := fun h => by
  obtain ⟨d, hd⟩ := List.exists_mem_of_length_pos (l := ml) (by omega); exact ⟨d, (HNE.out d).1 ((hne d).2 (.inr hd)), hml d hd⟩
 have HML : Hid (mn4 = 0 -> ¬ dY p hs aF dep (toL pre)) := fun h => by
  rintro ⟨d, h1, h2⟩; rcases (hne d).1 ((HNE.out d).2 h1) with h3 | h3
  . exact hfl d h3 h2
  . rw [List.eq_nil_of_length_eq_zero (show ml.length = 0 by omega)] at h3; cases h3
 have HFL : Hid (mn4 = 0 -> ∀ d, d ∈ fl ↔ Need p hs aF dep (toL pre) d) := fun h d => by
  rw [<- HNE.out, hne]; constructor
  . exact .inl
  . rintro (h3 | h3)
    . exact h3
    . rw [List.eq_nil_of_length_eq_zero (show ml.length = 0 by omega)] at h3; cases h3
 have HL1 := ah L1; have HL3 := ah L3; have HCL := ah hcl; have HFN := ah hfl0; clear hb3 hb4 hR3 hE3 hC3 hS3 hN3 hW3 hW4 HV x0 x1 HB2 HP2 HH2 HP3 L1 L2 L3 L4 hne hfl hml hhl7 hml0 hcl hfl0 HW2; obtain ⟨x0, x1, x2, x3, x4, x5, x6⟩ := aR HK4.out; rw [<- HW4.out] at x0 x1 x2 x3 x4 x5 x6; rcases Nat.eq_zero_or_pos mn4 with hm0 | hm0
 case inr =>
  have hmz : (0 : Int) < (mn4 : Int) := by omega
  have HN : Hid (NdR 2 4 9 p hs dep (toL pre) [] [] 8) := .lacks HD0.out HPL.out (HMN.out hm0); clear hm0; go_wp2_with fail; rw [HW4.out]; refine bodyPost_ret (results_tmp3 rfl _ _ _) rfl ?_; exact lY _ _ HN.out ((HB4.out.alloc HB4.out.size _).alloc (HB4.out.alloc HB4.out.size _).size _)
 have HLK := ah (HML.out hm0); have HFF := ah (HFL.out hm0); clear HMN HML HFL; subst hm0; cases wb with
 | true =>
   have HN : Hid (NdR 2 4 9 p hs dep (toL pre) [] [] 9) := .wrong HD0.out HPL.out HLK.out (HWR.out.1 rfl); go_wp2_with fail; rw [HW4.out]; refine bodyPost_ret (results_tmp3 rfl _ _ _) rfl ?_; exact lY _ _ HN.out ((HB4.out.alloc HB4.out.size _).alloc (HB4.out.alloc HB4.out.size _).size _)
 | false =>
   have HNW : Hid (¬ bZ p hs aF dep (toL pre)) := fun h => by cases HWR.out.2 h
   obtain ⟨W5, hW5⟩ : ∃ W, W4.alloc (.cells #[] 42) = W := ⟨_, rfl⟩
   have hb5 : Below W4.heap.size W4 W5 := by rw [<- hW5]; exact (Below.refl _ W4).alloc ai _
   have HB5 : Hid (Below w.heap.size w W5) := HB4.out.trans (hb5.mono HB4.out.size); have HK5 := ah (HK4.out.below hb5 HK4.out.lt); have HP5 : Hid (Sl W5 W5.heap.size 3 pA pn (flat itC p)) := (HP4.out.below hb5 ai).more hb5.size; have HE5 := ah (HE4.out.bel hb5); have HC5 := ah (HL3.out.bel hb5); have HF5 := ah (HL1.out.bel hb5); have HW5 := ah hW5; have z5 : w3.heap.size < W5.heap.size := HK5.out.lt; clear hb5 hW5 HL1 HL3 HE4 HP4 HR4 HK4 HB4; go_wp2_with fail; rw [HW4.out, HW5.out]; rw [<- hbb]; rw [<- hbb] at HK5 z5; clear hbb x0 x1 x2 x3 x4 x5 x6 HW4 HW5
   go_loopw [12, 13] (fun q i wr => ∃ (j : Nat) (gA : OA) (gn gc : Nat) (ed : List Dig), q = .slice gA gn gc /\ i = .int .i64 (j : Int) /\ j <= cn4 /\ Hid (Lst7 U wr gA gn gc ed) /\ Hid (EdQ p (inL sl) com j 0 ed) /\ Hid (Below W5.heap.size W5 wr)) (fun _ i _ => cn4 - (intOf i).toNat)
   case atStart => exact ⟨0, _, 0, 0, [], rfl, rfl, Nat.zero_le _, ⟨jL _ _ _ _, Nat.le_refl _, Nat.zero_le _, List.Pairwise.nil, fun d h => by cases h⟩, EdQ.start _ _ _, Below.refl _ _⟩
   case round =>
    obtain ⟨j, gA, gn, gc, ed, rfl, rfl, hj, hGr, hEr, hBr⟩ := hrel; have HGr := ah hGr.out; have HEr := ah hEr.out; have HBr := ah hBr.out; clear hGr hEr hBr; have HKr := ah (HK5.out.below HBr.out HK5.out.lt); obtain ⟨x0, x1, x2, x3, x4, x5, x6⟩ := aR HKr.out; by_cases hlt : j < cn4
    case neg =>
     have hltz : ¬ (j : Int) < (cn4 : Int) := by omega
     have HED : Hid (∀ d, d ∈ ed ↔ dZ p hs aF dep d) := by
      have h1 := HEr.out; rw [show j = com.length by rw [HCL.out]; omega] at h1; exact h1.fin HCQ.out HSN.out
     have HFr := ah (HF5.out.bel HBr.out); have HBF : Hid (Below w.heap.size w wr) := HB5.out.trans (HBr.out.mono HB5.out.size); have hgl : ed.length = gn := HGr.out.s.len aS (by have := HGr.out.le; have := HGr.out.mx; unfold maxLen at this; have h3 := HGr.out.len HUL.out; omega); have hg9 : gn <= 9000 := HGr.out.len HUL.out; go_wp2_with fail; refine bodyPost_ret (results_tmp3 rfl _ _ _) rfl ?_; refine ⟨fl, ed, 0, f4, fc4, gA, gc, by rw [HFN.out, hgl]; rfl, .ok HD0.out HPL.out HLK.out HNW.out HFr.out.asc HFF.out HGr.out.asc HED.out, ⟨by rw [HFN.out]; exact HFr.out.s, by rw [hgl]; exact HGr.out.s⟩, fun d hd => HUW.out _ (HFr.out.u d hd), ⟨by rw [HFN.out]; exact HFr.out.le, HFr.out.mx, by rw [hgl]; exact HGr.out.le, HGr.out.mx⟩, by rw [HFN.out]; omega, by rw [hgl]; omega, HBF.out⟩
    case pos =>
     have hltz : (j : Int) < (cn4 : Int) := by omega
     obtain ⟨b, off, d, rfl, hbB, hd, y0, y1⟩ := (HC5.out.bel HBr.out).s.dg hlt; have hbW : b < W5.heap.size := by
      obtain ⟨b2, off2, e2, hb2, _⟩ := HC5.out.s.2 (by omega); cases e2; exact hb2
     have HD := ah hd; have HCD := ah ((HCQ.out.com d).1 (List.mem_of_getElem? hd)); have HDU : Hid (d ∈ U) := HC5.out.u d (List.mem_of_getElem? hd); clear hd; obtain ⟨d1, d2⟩ := d; simp only at y0 y1; have HG := ah (oK pA pn pc W5.heap.size p (d1, d2) wr (HP5.out.below HBr.out ai) HBr.out.size (by omega) HPO.out); unfold mR at HG; simp only [az] at HG; go_wp2_with fail; refine HG.out.mono ?_; rintro e w6 ⟨hq, hb6⟩; have HB6 : Hid (Below W5.heap.size W5 w6) := HBr.out.trans (hb6.mono HBr.out.size); have HG6 := ah (HGr.out.bel hb6); obtain ⟨hsn, o', hg', hk'⟩ := HCD.out; rcases hq with ⟨o, s, hg, hok, rfl, hom⟩ | ⟨hg, _⟩
     case inr => rw [hg'] at hg; cases hg
     rw [hg'] at hg; injection hg with hg; subst hg; have HGG := ah hg'; have HKD := ah hk'; have HOK := ah hok; simp only [obV, obC]; obtain ⟨W7, hW7⟩ : ∃ W, w6.alloc (.cells #[.int .i64 o'.kind, .string o'.data, .slice s.eA s.en s.ec, .int .u64 o'.tree.1, .int .u64 o'.tree.2, .slice s.pA s.pn s.pc, .string o'.auth, .int .i64 o'.time, .string o'.msg] 75) = W := ⟨_, rfl⟩
     have hb7 : Below w6.heap.size w6 W7 := by rw [<- hW7]; exact (Below.refl _ w6).alloc ai _
     have HKo7 : Hid (Bk W7 w6.heap.size 75 #[.int .i64 o'.kind, .string o'.data, .slice s.eA s.en s.ec, .int .u64 o'.tree.1, .int .u64 o'.tree.2, .slice s.pA s.pn s.pc, .string o'.auth, .int .i64 o'.time, .string o'.msg]) := by rw [<- hW7]; exact Bk.new w6 _ _
     have HB7 : Hid (Below W5.heap.size W5 W7) := HB6.out.trans (hb7.mono HB6.out.size); have HG7 := ah (HG6.out.bel hb7); have HO7 : Hid (ObM W7 W7.heap.size o' s) := (hom.below hb7 ai).more hb7.size; have HPLn : Hid (o'.pars.length = s.pn) := HO7.out.plen; have hp8 : s.pn <= 8 := by have h1 := (gQ hok).1; have h2 := HPLn.out; omega
     have HW7 := ah hW7; obtain ⟨bo, hbo⟩ : ∃ b, b = w6.heap.size := ⟨_, rfl⟩
     clear hb6 hb7 hW7 HG x0 x1 x2 x3 x4 x5 x6 y0 y1 hg' hk' hsn hok hom HGr HKr; go_wp2_with fail; rw [HW7.out]; rw [<- hbo]; rw [<- hbo] at HKo7; clear hbo HW7
     go_loopw [12, 16] (fun q i wr => ∃ (k : Nat) (gA : OA) (gn gc : Nat) (ed : List Dig), q = .slice gA gn gc /\ i = .int .i64 (k : Int) /\ k <= s.pn /\ Hid (Lst7 U wr gA gn gc ed) /\ Hid (EdQ p (inL sl) com j k ed) /\ Hid (Below W7.heap.size W7 wr)) (fun _ i _ => s.pn - (intOf i).toNat)
     case atStart => exact ⟨0, _, _, _, ed, rfl, rfl, Nat.zero_le _, HG7.out, HEr.out, Below.refl _ _⟩
     case round =>
      clear HG6 HG7 HEr; obtain ⟨k, gA, gn, gc, ed, rfl, rfl, hk, hGr, hEr, hBr⟩ := hrel; have HGr := ah hGr.out; have HEr := ah hEr.out; have HBk := ah hBr.out; clear hGr hEr hBr; have HB8 : Hid (Below W5.heap.size W5 wr) := HB7.out.trans (HBk.out.mono HB7.out.size); have HKr := ah (HK5.out.below HB8.out HK5.out.lt); have HKor := ah (HKo7.out.below HBk.out HKo7.out.lt); obtain ⟨x0, x1, x2, x3, x4, x5, x6⟩ := aR HKr.out; obtain ⟨_, _, _, _, _, q5, _, _, _⟩ := HKor.out.nine; by_cases hlk : k < s.pn
      case neg =>
       have hlkz : ¬ (k : Int) < (s.pn : Int) := by omega
       have HEN : Hid (EdQ p (inL sl) com (j + 1) 0 ed) := by
        have h1 := HEr.out; rw [show k = o'.pars.length by rw [HPLn.out]; omega] at h1; exact h1.next HD.out HGG.out
       go_wp2_with fail; go_roundw
       case rel => exact ⟨j + 1, _, _, _, ed, rfl, by go_num, hlt, HGr.out, HEN.out, HB8.out⟩
       case measure => simp [intOf]; omega
      case pos =>
       have hlkz : (k : Int) < (s.pn : Int) := by omega
       obtain ⟨b3, off3, x, hpA, hb3, hx, u0, u1⟩ := (HO7.out.p.below HBk.out ai).dg hlk; have HX := ah hx; clear hx; obtain ⟨x1', x2'⟩ := x; simp only at u0 u1; have HQ5 := q5; rw [hpA] at HQ5; have HIN := ah (jK eA en ec W5.heap.size sl (x1', x2') wr (HE5.out.s.below HB8.out ai) HB8.out.size (by have := HE5.out.len HUL.out; omega)); simp only [az] at HIN; have hbz : b < wr.heap.size := by have := HB8.out.size; omega
       obtain ⟨b9, off9, dd, e9, _, hd9, w0', w1'⟩ := (HC5.out.bel HB8.out).s.dg hlt; cases e9
       rw [HD.out] at hd9; cases hd9
       simp only at w0' w1'; clear q5 hpA; go_wp2_with fail; refine HIN.out.mono ?_; rintro e w9 ⟨rfl, hb9⟩; have HB9 : Hid (Below W7.heap.size W7 w9) := HBk.out.trans (hb9.mono HBk.out.size); have HB95 : Hid (Below W5.heap.size W5 w9) := HB8.out.trans (hb9.mono HB8.out.size); have HG9 := ah (HGr.out.bel hb9); have HK9 := ah (HKr.out.below hb9 HKr.out.lt); have v0 := (hb9.cell (p := ⟨b, off + j * 2, none⟩) (by show b < _; omega)).trans w0'; have v1 := (hb9.cell (p := ⟨b, off + j * 2 + 1, none⟩) (by show b < _; omega)).trans w1'; clear hb9 HIN u0 u1 w0' w1' x0 x1 x2 x3 x4 x5 x6 HQ5; by_cases hin : (x1', x2') ∈ sl
       case pos =>
        rw [decide_eq_true hin]; have HEN := ah (HEr.out.pass HD.out HGG.out HX.out (inL_true.2 hin)); clear hin; go_wp2_with fail; go_roundw
        case rel => exact ⟨k + 1, _, _, _, ed, rfl, by go_num, hlk, HG9.out, HEN.out, HB9.out⟩
        case measure => simp [intOf]; omega
       case neg =>
        rw [decide_eq_false hin]; have HNI : Hid (inL sl (x1', x2') = false) := by
         cases h : inL sl (x1', x2') with
         | false => rfl
         | true => exact absurd (inL_true.1 h) hin
        clear hin; obtain ⟨x0, x1, x2, x3, x4, x5, x6⟩ := aR HK9.out; have hgn : gn <= 9000 := HG9.out.len HUL.out; have HWI := ah (iB gA gn gc w9.heap.size ed (d1, d2) w9 HG9.out.s ai HG9.out.le HG9.out.mx (by omega) HG9.out.asc); unfold iw at HWI; simp only [az] at HWI; go_wp2_with fail; refine HWI.out.mono ?_; rintro e wx ⟨ed2, g2, gc2, hasc, hmem, hlen, rfl, hwh, hlc, hcm, hbx⟩; have HBx : Hid (Below W7.heap.size W7 wx) := HB9.out.trans (hbx.mono HB9.out.size); have HGx : Hid (Lst7 U wx g2 ed2.length gc2 ed2) := iE HG9.out hbx (fun k _ => rfl) ai HDU.out hasc hmem hwh hlc hcm; have HEN := ah (HEr.out.add HD.out HGG.out HX.out HNI.out hmem); clear hbx hasc hmem hlen hwh hlc hcm HWI; go_wp2_with fail; go_roundw
        case rel => exact ⟨k + 1, _, _, _, ed2, rfl, by go_num, hlk, HGx.out, HEN.out, HBx.out⟩
        case measure => simp [intOf]; omega
theorem A8 (p : List Itm) (pA : OA) (pn pc : Nat) (hs : List Dig) (hA : OA) (hn hc : Nat) (dep : Int) (pre : ByteArray) (B : Nat) (w : World)
  (h0 : Sl w B 3 pA pn (flat itC p)) (h1 : Sl w B 2 hA hn (flat dgC hs)) (hB : B <= w.heap.size) (hpo : PlOk p) (hpn : pn <= 40) (hh : ∀ d ∈ hs, WfD d) (hhn : hn <= 8) (hdep : dep <= 9223372036854775807) :
  Calls Tryz.prog 12 #[.slice pA pn pc, .slice hA hn hc, scV dep pre] w (ClE p hs dep pre w) := by
 have HPO := ah hpo; have HH := ah hh; obtain ⟨W0, hW0⟩ : ∃ W, w.alloc (.cells #[.int .i64 dep, .string pre] 26) = W := ⟨_, rfl⟩
 have HB0 : Hid (Below w.heap.size w W0) := by rw [<- hW0]; exact (Below.refl _ w).alloc ai _
 have HK0 : Hid (Bk W0 w.heap.size 26 #[.int .i64 dep, .string pre]) := by rw [<- hW0]; exact Bk.new w _ _
 have zW0 : w.heap.size < W0.heap.size := HK0.out.lt; have HP0 := ah (h0.below HB0.out hB); have HH0 := ah (h1.below HB0.out hB); have HN := ah (rY p pA pn pc hs hA hn hc dep pre B W0 HP0.out HH0.out (by omega) HPO.out hpn HH.out hhn hdep); obtain ⟨x0, x1, _, _⟩ := HK0.out.two; have HW0 := ah hW0; rw [<- hW0] at x0 x1; unfold scV at HN ⊢; clear hpo hh h0 h1 hW0
 go_enter Tryz.func12, Tryz.ntmps12
 go_wp2_with fail; rw [HW0.out]; refine HN.out.mono ?_; rintro e w1 ⟨l, edge, z, A, c, A2, c2, rfl, hR, ⟨hS1, hS2⟩, hwf, ⟨hlc, hcm, hec, hcm2⟩, hll, hel, hb1⟩; have HR := ah hR; have HS1 := ah hS1; have HS2 := ah hS2; have HWF := ah hwf; have HB1 : Hid (Below w.heap.size w w1) := HB0.out.trans (hb1.mono (by omega)); have HP1 := ah (HP0.out.below hb1 (by omega)); have z1 : W0.heap.size <= w1.heap.size := hb1.size; clear hR hS1 hS2 hwf hb1 HN x0 x1 HW0; by_cases hz : z = 0
 . subst hz
   have HK := ah (Am pA pn pc w1.heap.size A l.length c p l w1 (HP1.out.more (by omega)) HS1.out ai (by omega) (by omega)); go_wp2_with fail; refine HK.out.mono ?_; rintro e w2 ⟨A3, c3, rfl, hS3, hkc, hkm, hb2⟩; have HS3 := ah hS3; have HB2 : Hid (Below w.heap.size w w2) := HB1.out.trans (hb2.mono HB1.out.size); have HS22 := ah ((HS2.out.below hb2 ai).more hb2.size); clear hS3 hb2 HK; go_wp2_with fail; refine bodyPost_ret (results_tmp3 rfl _ _ _) rfl ?_; exact ⟨l, edge, 0, A3, c3, A2, c2, rfl, HR.out, ⟨HS3.out, HS22.out⟩, HWF.out, ⟨hkc, hkm, hec, hcm2⟩, by omega, by omega, HB2.out⟩
 . have hzz : (z != 0) = true := by rw [bne_iff_ne]; exact hz
   obtain ⟨e1, e2⟩ := HR.out.none hz; have HE1 := ah e1; have HE2 := ah e2; clear e1 e2 hz; go_wp2_with fail; refine bodyPost_ret (results_tmp3 rfl _ _ _) rfl ?_; rw [HE1.out, HE2.out] at HR; refine ⟨[], [], z, some ⟨w1.heap.size, 0, none⟩, 0, some ⟨w1.heap.size + 1, 0, none⟩, 0, ?_, HR.out, ?_, (fun d h => by cases h), ?_, Nat.zero_le _, Nat.zero_le _, (HB1.out.alloc HB1.out.size _).alloc (HB1.out.alloc HB1.out.size _).size _⟩
   . rw [iI]; rfl
   . rw [iI]; exact ⟨jL _ _ _ _, jL _ _ _ _⟩
   . rw [iI]; exact ⟨Nat.le_refl _, Nat.zero_le _, Nat.le_refl _, Nat.zero_le _⟩
end
section
open Go.Maps
theorem nE (A0 A1 : OA) (n0 c0 n1 c1 B : Nat) (rs qs : List Dig) (w : World) (h0 : Sl w B 2 A0 n0 (flat dgC rs)) (h1 : Sl w B 2 A1 n1 (flat dgC qs)) (m0 : n0 <= maxLen) :
  Calls Tryz.prog 13 #[.slice A0 n0 c0, .slice A1 n1 c1] w fun e w' => e = .returned (.bool (decide (rs = qs))) /\ ∃ k, w' = w.drewN k := by
 unfold maxLen at m0; have HL0 := ah (h0.len aS (by omega)); have HL1 := ah (h1.len aS (by omega)); have H0 := ah h0; have H1 := ah h1; clear h0 h1; have hM : Hid (decide (rs = qs) = true ↔ rs = qs) := decide_eq_true_iff; generalize decide (rs = qs) = mb at *; by_cases hn : n0 = n1
 . subst hn
   go_enter Tryz.func13, Tryz.ntmps13
   go_wp2
   go_loopw [5] (fun i wr => ∃ k nq : Nat, k <= n0 /\ i = .int .i64 k /\ wr = w.drewN nq /\ Hid (rs.take k = qs.take k)) (fun i _ => n0 - (intOf i).toNat)
   case atStart => exact ⟨0, 0, Nat.zero_le _, rfl, rfl, rfl⟩
   case round =>
    obtain ⟨k, nq, hk, rfl, rfl, heq⟩ := hrel; by_cases hlt : k < n0
    . obtain ⟨b0, o0, r, rfl, _, hr, x0, x1⟩ := H0.out.dg hlt
      obtain ⟨b1, o1, q, rfl, _, hq, y0, y1⟩ := H1.out.dg hlt; have HR := ah hr; have HQ := ah hq; clear hr hq; have hlz : (k : Int) < (n0 : Int) := by omega
      by_cases e : r = q
      . have t1 : (r.1 == q.1 && r.2 == q.2) = true := by rw [e]; simp
        have HE := ah e; clear e; have hnx : Hid (rs.take (k + 1) = qs.take (k + 1)) := by
         show _ = _; rw [bA HR.out, bA HQ.out, heq.out, HE.out]
        go_wp2
        go_quiet (fail)
        go_wp2
        go_roundw
        case rel => exact ⟨k + 1, _, by omega, by go_num, rfl, hnx⟩
        case measure => simp [intOf]; omega
      . have t1 : (r.1 == q.1 && r.2 == q.2) = false := by
          rw [Bool.eq_false_iff]; intro hh; simp only [Bool.and_eq_true, beq_iff_eq] at hh; apply e
          exact Prod.ext hh.1 hh.2
        have HE := ah e; clear e
        go_wp2
        go_quiet (fail)
        go_wp2
        go_ret
        refine ⟨aZ ?_, ⟨_, World.drewN_drewN _ _ _⟩⟩
        symm
        rw [Bool.eq_false_iff]; intro hh; have := hM.out.1 hh; subst this; exact HE.out (Option.some.inj (HR.out.symm.trans HQ.out))
    . have hall : Hid (mb = true) := by
        have := heq.out; rw [List.take_of_length_le (by rw [HL0.out]; omega), List.take_of_length_le (by rw [HL1.out]; omega)] at this; exact hM.out.2 this
      have hlz : ¬ (k : Int) < (n0 : Int) := by omega
      go_wp2
      go_ret
      exact ⟨aZ hall.out.symm, _, rfl⟩
 . have hne : ((n0 : Int) != (n1 : Int)) = true := by rw [bne_iff_ne]; omega
   go_enter Tryz.func13, Tryz.ntmps13
   go_wp2
   go_ret
   refine ⟨aZ ?_, 0, rfl⟩
   symm
   rw [Bool.eq_false_iff]; intro hh; have := hM.out.1 hh; subst this; exact hn (HL0.out.symm.trans HL1.out)
end
end Go.Proofs.YtlcecobipgmafaaGreatDoor
