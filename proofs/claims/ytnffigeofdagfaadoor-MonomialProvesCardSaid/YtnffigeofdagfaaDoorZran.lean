/-
  Walk in my logic: Any.
  Walks in my logic: number, both, Classes. Plain law: partitions.
-/
import Derived.Test.YtnffigeofdagfaaDoorZral
import Derived.Test.YtnffigeofdagfaaDoorZram
namespace Go.Proofs.YtnffigeofdagfaaDoor.M
open Go.RowKit
set_option linter.unusedVariables false
set_option linter.unusedSimpArgs false

set_option maxRecDepth 100000 in
set_option maxHeartbeats 4000000 in
theorem anyK_fn (xs : List Int) (a L most kx : Nat) (ha : a ≤ xs.length) (hl : xs.length ≤ 80) (hL : L = 1 ∨ L = 2) (hm : 1 ≤ most) (hm2 : most ≤ 100) (hk1 : most ≤ kx) (hk2 : 9 ≤ kx) : ∃ res H', MkG L kx xs res H' ∧
  FnS Tryd.prog 15 [.ptr 0 0 2, .t 2 (.int .i64 L), .t 2 (.int .i64 most)] [tpO 1 xs a] res H' := by
 obtain ⟨v, a1, hv, ha1, hN⟩ := next_fn xs a 6 ha hl (by omega)
 have hv := hv (by omega)
 refine fn_introGE Tryd.func15 rfl (by simp [Tryd.f15]) ?_
 rw [show Tryd.f15.ntmps = 31 from rfl, show Tryd.f15.results = #[.cell 6 32] from rfl]
 refine awp_seqR fun K hK => ?_
 simp (disch := omega) [ints, rows, scal, wr64, wr8]
 (repeat' first | apply hK | apply And.intro) <;> try first | (show okH _ _ _ = true; kernel_rfl) | omega | rfl | (simp <;> omega)
 refine awp_seq ?_
 refine awp_seqR fun K hK => ?_
 simp (disch := omega) [ints, rows, scal, wr64, wr8]
 (repeat' apply And.intro)
 all_goals (try omega)
 refine call_rule (caps := []) (hN) [0] [0] 1 rfl rfl rfl rfl (by kernel_rfl) (by simp) ?_ ?_ (by simp) rfl (by simp) ⟨.inr ⟨rfl, 0, _, _, _, _, _, rfl, rfl, rfl, rfl, rfl⟩, trivial⟩ (by simp [tpO]) ?_
 ·simp [scal, rows, ints, tpO]
 ·simp [scal, rows, ints, tpO]
 simp (disch := omega) [ints, rows, scal, wr64, wr8]
 (repeat' first | apply hK | apply And.intro) <;> try first | (show okH _ _ _ = true; kernel_rfl) | omega | rfl | (simp <;> omega)
 refine awp_block ?_
 by_cases h1 : (v : Int) = 1
 ·obtain ⟨res, H', ⟨n, s, b, bs, nxt, hn, hb, hD, rfl, rfl⟩, hO⟩ := ordered_fn xs a1 L most ha1 hl (by omega) (by omega) hm hm2
  refine awp_seqR fun K hK => ?_
  simp (disch := omega) [ints, rows, scal, wr64, wr8, h1]
  (repeat' first | apply hK | apply And.intro) <;> try first | (show okH _ _ _ = true; kernel_rfl) | omega | rfl | (simp <;> omega)
  refine awp_cond (b := true) (p := 2) (by simp [scal] <;> omega) ?_
  refine awp_seqR fun K hK => ?_
  simp (disch := omega) [ints, rows, scal, wr64, wr8]
  (repeat' apply And.intro)
  all_goals (try omega)
  refine call_rule (caps := []) (hO) [0] [0] 1 rfl rfl rfl rfl (by kernel_rfl) (by simp) ?_ ?_ (by simp) rfl (by simp) ⟨.inr ⟨rfl, 0, _, _, _, _, _, rfl, rfl, rfl, rfl, rfl⟩, trivial⟩ (by simp [tpO]) ?_
  ·simp [scal, rows, ints, tpO, dfT]
  ·simp [scal, rows, ints, tpO, dfT]
  simp (disch := omega) [ints, rows, scal, wr64, wr8, dfT, bools, tpO]
  (repeat' first | apply hK | apply And.intro) <;> try first | (show okH _ _ _ = true; kernel_rfl) | omega | rfl | (simp <;> omega)
  refine awp_ret ?_
  refine ⟨⟨_, _, ⟨n, s, b, bs, nxt, by omega, hb, hD, rfl, rfl⟩, resQ_G ?_⟩, by simp⟩
  refine ⟨.inr rfl, _, [(0, some 0)], (by first | (simp; rfl) | rfl), ?_, ?_, ?_, ?_⟩
  all_goals try simp +contextual (disch := omega) [beq_gt, beq_lt, eq_lt, eq_gt, lt_t, List.getElem?_cons_succ, Option.getD_some, callF, ints, scal, tpO, wkPs_snoc, wkPs_tab, wkT_tab, wk1, rows, bools, dfT]
 by_cases h2 : (v : Int) = 2
 ·obtain ⟨m4, hm4⟩ : ∃ m4 : Nat, (m4 : Int) = if (4 : Int) < most then 4 else (most : Int) := ⟨if 4 < most then 4 else most, by split <;> split <;> omega⟩
  have hm5 : 1 ≤ m4 ∧ m4 ≤ 100 ∧ m4 ≤ kx := by split at hm4 <;> omega
  obtain ⟨res, H', ⟨n, s, b, bs, nxt, hn, hb, hD, rfl, rfl⟩, hO⟩ := permutations_fn xs a1 L m4 ha1 hl (by omega) (by omega) hm5.1 hm5.2.1
  refine awp_seqR fun K hK => ?_
  simp (disch := omega) [ints, rows, scal, wr64, wr8, h1]
  (repeat' first | apply hK | apply And.intro) <;> try first | (show okH _ _ _ = true; kernel_rfl) | omega | rfl | (simp <;> omega)
  refine awp_cond (b := false) (p := 2) (by simp [scal] <;> omega) ?_
  refine awp_seqR fun K hK => ?_
  simp (disch := omega) [ints, rows, scal, wr64, wr8, h2]
  (repeat' first | apply hK | apply And.intro) <;> try first | (show okH _ _ _ = true; kernel_rfl) | omega | rfl | (simp <;> omega)
  refine awp_cond (b := true) (p := 2) (by simp [scal] <;> omega) ?_
  refine awp_seqR fun K hK => ?_
  simp (disch := omega) [ints, rows, scal, wr64, wr8, ← hm4]
  (repeat' apply And.intro)
  all_goals (try omega)
  refine call_rule (caps := []) (hO) [0] [0] 1 rfl rfl rfl rfl (by kernel_rfl) (by simp) ?_ ?_ (by simp) rfl (by simp) ⟨.inr ⟨rfl, 0, _, _, _, _, _, rfl, rfl, rfl, rfl, rfl⟩, trivial⟩ (by simp [tpO]) ?_
  ·simp [scal, rows, ints, tpO, dfT]
  ·simp [scal, rows, ints, tpO, dfT]
  simp (disch := omega) [ints, rows, scal, wr64, wr8, dfT, bools, tpO]
  (repeat' first | apply hK | apply And.intro) <;> try first | (show okH _ _ _ = true; kernel_rfl) | omega | rfl | (simp <;> omega)
  refine awp_ret ?_
  refine ⟨⟨_, _, ⟨n, s, b, bs, nxt, by omega, hb, hD, rfl, rfl⟩, resQ_G ?_⟩, by simp⟩
  refine ⟨.inr rfl, _, [(0, some 0)], (by first | (simp; rfl) | rfl), ?_, ?_, ?_, ?_⟩
  all_goals try simp +contextual (disch := omega) [beq_gt, beq_lt, eq_lt, eq_gt, lt_t, List.getElem?_cons_succ, Option.getD_some, callF, ints, scal, tpO, wkPs_snoc, wkPs_tab, wkT_tab, wk1, rows, bools, dfT]
 by_cases h3 : (v : Int) = 3
 ·obtain ⟨res, H', ⟨n, s, b, bs, nxt, hn, hb, hD, rfl, rfl⟩, hO⟩ := definite_fn xs a1 L ha1 hl hL
  refine awp_seqR fun K hK => ?_
  simp (disch := omega) [ints, rows, scal, wr64, wr8, h1]
  (repeat' first | apply hK | apply And.intro) <;> try first | (show okH _ _ _ = true; kernel_rfl) | omega | rfl | (simp <;> omega)
  refine awp_cond (b := false) (p := 2) (by simp [scal] <;> omega) ?_
  refine awp_seqR fun K hK => ?_
  simp (disch := omega) [ints, rows, scal, wr64, wr8, h2]
  (repeat' first | apply hK | apply And.intro) <;> try first | (show okH _ _ _ = true; kernel_rfl) | omega | rfl | (simp <;> omega)
  refine awp_cond (b := false) (p := 2) (by simp [scal] <;> omega) ?_
  refine awp_seqR fun K hK => ?_
  simp (disch := omega) [ints, rows, scal, wr64, wr8, h3]
  (repeat' first | apply hK | apply And.intro) <;> try first | (show okH _ _ _ = true; kernel_rfl) | omega | rfl | (simp <;> omega)
  refine awp_cond (b := true) (p := 2) (by simp [scal] <;> omega) ?_
  refine awp_seqR fun K hK => ?_
  simp (disch := omega) [ints, rows, scal, wr64, wr8]
  (repeat' apply And.intro)
  all_goals (try omega)
  refine call_rule (caps := []) (hO) [0] [0] 1 rfl rfl rfl rfl (by kernel_rfl) (by simp) ?_ ?_ (by simp) rfl (by simp) ⟨.inr ⟨rfl, 0, _, _, _, _, _, rfl, rfl, rfl, rfl, rfl⟩, trivial⟩ (by simp [tpO]) ?_
  ·simp [scal, rows, ints, tpO, dfT]
  ·simp [scal, rows, ints, tpO, dfT]
  simp (disch := omega) [ints, rows, scal, wr64, wr8, dfT, bools, tpO]
  (repeat' first | apply hK | apply And.intro) <;> try first | (show okH _ _ _ = true; kernel_rfl) | omega | rfl | (simp <;> omega)
  refine awp_ret ?_
  refine ⟨⟨_, _, ⟨n, s, b, bs, nxt, by omega, hb, hD, rfl, rfl⟩, resQ_G ?_⟩, by simp⟩
  refine ⟨.inr rfl, _, [(0, some 0)], (by first | (simp; rfl) | rfl), ?_, ?_, ?_, ?_⟩
  all_goals try simp +contextual (disch := omega) [beq_gt, beq_lt, eq_lt, eq_gt, lt_t, List.getElem?_cons_succ, Option.getD_some, callF, ints, scal, tpO, wkPs_snoc, wkPs_tab, wkT_tab, wk1, rows, bools, dfT]
 ·obtain ⟨res, H', ⟨n, s, b, bs, nx, hnm, hb, hD, rfl, rfl⟩, hspec⟩ := dfa_fn xs a1 L most ha1 hl (by omega) (by omega) hm hm2
  have hbl := hD.bl
  refine awp_seqR fun K hK => ?_
  simp (disch := omega) [ints, rows, scal, wr64, wr8, h1]
  (repeat' first | apply hK | apply And.intro) <;> try first | (show okH _ _ _ = true; kernel_rfl) | omega | rfl | (simp <;> omega)
  refine awp_cond (b := false) (p := 2) (by simp [scal] <;> omega) ?_
  refine awp_seqR fun K hK => ?_
  simp (disch := omega) [ints, rows, scal, wr64, wr8, h2]
  (repeat' first | apply hK | apply And.intro) <;> try first | (show okH _ _ _ = true; kernel_rfl) | omega | rfl | (simp <;> omega)
  refine awp_cond (b := false) (p := 2) (by simp [scal] <;> omega) ?_
  refine awp_seqR fun K hK => ?_
  simp (disch := omega) [ints, rows, scal, wr64, wr8, h3]
  (repeat' first | apply hK | apply And.intro) <;> try first | (show okH _ _ _ = true; kernel_rfl) | omega | rfl | (simp <;> omega)
  refine awp_cond (b := false) (p := 2) (by simp [scal] <;> omega) ?_
  refine awp_skip ?_
  show awp _ _ _ _
  refine awp_seqR fun K hK => ?_
  simp (disch := omega) [ints, rows, scal, wr64, wr8]
  (repeat' apply And.intro)
  all_goals (try omega)
  refine call_ruleF (caps := []) hspec [0] [0, 12000001, 12000002] 12000003 1 rfl rfl rfl rfl (by kernel_rfl) (by simp) ?_ ?_ (by simp) rfl (by simp) ⟨.inr ⟨rfl, 0, _, _, _, _, _, rfl, rfl, rfl, rfl, rfl⟩, .inl (by omega), .inl (by omega), trivial⟩ (by omega) (by intro k hk; simp at hk; omega) (by simp [tpO, dfH]) (fun j hj => rfl) ?_
  ·simp [scal, tpO]
  ·simp [tpO, scal, ints]
  have q1 : (poF [0, 12000001, 12000002] 12000003 n)[1]?.getD 0 = 12000001 := by simp [poF]
  have q2 : (poF [0, 12000001, 12000002] 12000003 n)[2]?.getD 0 = 12000002 := by simp [poF]
  simp (disch := omega) [KL_ap, KD_ap, awpL_nil, awpL_cons, awpD_nil, awpD_cons, awpOp, awpOpD, wrE, gd, aop, aBuiltin, aNil, aMin, ASt.eval, AV.ofV, dstOk, ASt.app, Eff.heap, dels, upd_b, aLoad, aStore, aField, aFieldV, aIndexAddr, aIndex, aSlice, aSliceO, aLen, aBin, iB, sB, aUn, aConv, aAlloc, aBox, aBuild, afill, avCells, AV.leaf, setR, aBuildSlice, frz, frzL, isOwn, vecOf, tsOf, aMake, srcOf, aAppend, aMkMap, aMapUpd, aLookup, oint, cut, putL, AObj.cnt, mkS, envOf_nil, envOf_cons, heapOf_nil, heapOf_cons, argS, Nat.blt_eq, callS, outV, outVs, outO, heap2, addL, delL, ints, rows, scal, wr64, wr8, List.getElem?_cons_zero, callF, q1, q2, outVs_fam (show 3 = [0, 12000001, 12000002].length from rfl), dfH, tpO, ovr_lt]
  (repeat' first | apply hK | apply And.intro) <;> try first | (show okH _ _ _ = true; kernel_rfl) | omega | rfl | (simp <;> omega)
  refine awp_ret ?_
  refine ⟨⟨_, _, ⟨n, s, b, bs, tab n nx, by omega, hb, hD.list, rfl, rfl⟩, resQ_G ?_⟩, by simp [callF]⟩
  refine ⟨.inr rfl, _, [(0, some 0)], (by first | (simp; rfl) | rfl), ?_, ?_, ?_, ?_⟩
  all_goals try simp +contextual (disch := omega) [beq_gt, beq_lt, eq_lt, eq_gt, lt_t, List.getElem?_cons_succ, Option.getD_some, callF, ints, scal, tpO, wkPs_snoc, wkPs_tab, wkT_tab, wk1, rows, bools, dfT, tab_map, hbl]
  exact fun j hj => (hD.row j hj).1

set_option linter.unusedSimpArgs false

def cv (p : Nat → Nat) : Nat → Nat
 | 0 => 0
 | k + 1 => if p k = cv p k then cv p k + 1 else cv p k
def POK (p : Nat → Nat) (n : Nat) : Prop := ∀ q, q < n → p q ≤ cv p q
theorem cv_congr {p q : Nat → Nat} : ∀ {k : Nat}, (∀ i, i < k → p i = q i) → cv p k = cv q k
 | 0, _ => rfl
 | k + 1, h => by
  unfold cv
  rw [cv_congr (k := k) (fun i hi => h i (by omega)), h k (by omega)]
theorem cv_step (p : Nat → Nat) (k : Nat) : cv p k ≤ cv p (k + 1) ∧ cv p (k + 1) ≤ cv p k + 1 := by
 show cv p k ≤ (if p k = cv p k then cv p k + 1 else cv p k) ∧ (if p k = cv p k then cv p k + 1 else cv p k) ≤ cv p k + 1
 split <;> omega
theorem cv_mono (p : Nat → Nat) {a b : Nat} (h : a ≤ b) : cv p a ≤ cv p b := by
 induction b with
 | zero =>
      have : a = 0 := by omega
      subst this; exact Nat.le_refl _
 | succ b ih =>
  by_cases e : a = b + 1
  ·subst e; exact Nat.le_refl _
  ·exact Nat.le_trans (ih (by omega)) (cv_step p b).1
theorem cv_le (p : Nat → Nat) (k : Nat) : cv p k ≤ k := by
 induction k with
 | zero => exact Nat.le_refl _
 | succ k ih => have := (cv_step p k).2; omega
theorem POK.lt {p : Nat → Nat} {n i k : Nat} (h : POK p n) (hi : i < k) (hk : i < n) : p i < cv p k := by
 have h1 := h i hk
 have h2 := cv_mono p (show i + 1 ≤ k by omega)
 have h3 : cv p (i + 1) = if p i = cv p i then cv p i + 1 else cv p i := rfl
 split at h3 <;> omega
theorem cv_has {p : Nat → Nat} {c : Nat} : ∀ {k : Nat}, c < cv p k → ∃ x, x < k ∧ p x = c
 | 0, h => by simp [cv] at h
 | k + 1, h => by
  have h3 : cv p (k + 1) = if p k = cv p k then cv p k + 1 else cv p k := rfl
  by_cases hc : c < cv p k
  ·obtain ⟨x, h1, h2⟩ := cv_has hc
   exact ⟨x, by omega, h2⟩
  ·split at h3
   ·exact ⟨k, by omega, by omega⟩
   ·omega
section
variable {p q : Nat → Nat} {n : Nat}
theorem pk_new (hp : POK p n) (hq : POK q n) (hk : ∀ i j, i < n → j < n → q i = q j → p i = p j) {m : Nat} (hm : m < n) (h : p m = cv p m) : q m = cv q m := by
 have h1 := hq m hm
 by_cases e : q m = cv q m
 ·exact e
 ·obtain ⟨x, hx, ex⟩ := cv_has (p := q) (c := q m) (k := m) (by omega)
  have h2 := hk x m (by omega) hm ex
  have h3 := hp.lt (k := m) hx (by omega)
  omega
theorem pk_step (hp : POK p n) (hq : POK q n) (hk : ∀ i j, i < n → j < n → q i = q j → p i = p j) {m : Nat} (hm : m < n) : cv p (m + 1) + cv q m ≤ cv q (m + 1) + cv p m := by
 have h1 := pk_new hp hq hk hm
 have h3 : cv p (m + 1) = if p m = cv p m then cv p m + 1 else cv p m := rfl
 have h4 : cv q (m + 1) = if q m = cv q m then cv q m + 1 else cv q m := rfl
 by_cases e : p m = cv p m
 ·rw [if_pos e] at h3
  rw [if_pos (h1 e)] at h4
  omega
 ·rw [if_neg e] at h3
  split at h4 <;> omega
theorem pk_le (hp : POK p n) (hq : POK q n) (hk : ∀ i j, i < n → j < n → q i = q j → p i = p j) (m : Nat) : ∀ d, m + d ≤ n → cv p (m + d) + cv q m ≤ cv q (m + d) + cv p m
 | 0, _ => by simp; omega
 | d + 1, h => by
  have a := pk_le hp hq hk m d (by omega)
  have b := pk_step hp hq hk (m := m + d) (by omega)
  rw [← Nat.add_assoc]
  omega
theorem pk_grow (hp : POK p n) (hq : POK q n) (hk : ∀ i j, i < n → j < n → q i = q j → p i = p j) : (∀ i, i < n → q i = p i) ∨ cv p n < cv q n := by
 by_cases hc : cv p n < cv q n
 ·exact .inr hc
 ·left
  have hcnt : ∀ m, m ≤ n → cv p m = cv q m := fun m hm => by
   have a := pk_le hp hq hk 0 m (by omega)
   have b := pk_le hp hq hk m (n - m) (by omega)
   rw [show m + (n - m) = n by omega] at b
   rw [Nat.zero_add] at a
   have : cv p 0 = 0 ∧ cv q 0 = 0 := ⟨rfl, rfl⟩
   omega
  intro i
  induction i using Nat.strongRecOn with
  | _ i ih =>
   intro hi
   have h1 := hcnt i (by omega)
   have h2 := hcnt (i + 1) (by omega)
   have h3 : cv p (i + 1) = if p i = cv p i then cv p i + 1 else cv p i := rfl
   have h4 : cv q (i + 1) = if q i = cv q i then cv q i + 1 else cv q i := rfl
   by_cases e : q i = cv q i
   ·rw [if_pos e] at h4
    split at h3 <;> omega
   ·have hqi := hq i hi
    obtain ⟨x, hx, ex⟩ := cv_has (p := q) (c := q i) (k := i) (by omega)
    rw [← ex, ih x hx (by omega)]
    exact hk x i (by omega) hi ex
end
@[simp] theorem mpTy_ii : mpTy Tryd.prog 159 = some (3, 3) := by kernel_rfl
@[simp] theorem mpB_ii : mpB Tryd.prog 159 = true := by kernel_rfl
@[simp] theorem elOf_ii : elOf Tryd.prog 159 = none := by kernel_rfl
@[simp] theorem kOK_int (x : Int) : kOK Tryd.prog 3 (.int .i64 x) = true := by
 show decide (intB Tryd.prog 3 = some .i64) = true
 kernel_rfl
structure NuI (xs : List Int) (cl : List Int) (r : Nat → Nat) (k : Nat) : Prop where
 kl : k ≤ xs.length
 at_ : ∀ (i : Nat) v, i < k → xs[i]? = some v → cl[r i]? = some v
 nd : ∀ (a b : Nat) v, cl[a]? = some v → cl[b]? = some v → a = b
 cnt : cv r k = cl.length
 ok : POK r k
theorem NuI.start {xs : List Int} : NuI xs [] (fun _ => 0) 0 := ⟨by simp, fun i v h => by omega, fun a b v h => by simp at h, rfl, fun q h => by omega⟩
theorem NuI.hit {xs cl : List Int} {r : Nat → Nat} {k : Nat} (h : NuI xs cl r k) (hk : k < xs.length) {j : Nat} (hj : cl[j]? = some xs[k]) : NuI xs cl (fun i => if i = k then j else r i) (k + 1) := by
 have e : cv (fun i => if i = k then j else r i) k = cv r k := cv_congr (fun i hi => by simp [show i ≠ k by omega])
 have hjl := (List.getElem?_eq_some_iff.1 hj).1
 have hcnt := h.cnt
 refine ⟨by omega, fun i v hi hv => ?_, h.nd, ?_, fun q hq => ?_⟩
 ·by_cases eq : i = k
  ·subst eq
   rw [List.getElem?_eq_getElem hk] at hv
   injection hv with hv
   simp only [if_true]
   rw [hj, hv]
  ·simp only [if_neg eq]; exact h.at_ i v (by omega) hv
 ·show (if (if k = k then j else r k) = cv _ k then cv _ k + 1 else cv _ k) = _
  rw [e]
  simp only [if_true]
  rw [if_neg (by omega)]
  exact hcnt
 ·by_cases eq : q = k
  ·subst eq
   rw [e]
   simp only [if_true]
   omega
  ·rw [cv_congr (q := r) (fun i hi => by simp [show i ≠ k by omega])]
   simp only [if_neg eq]
   exact h.ok q (by omega)
theorem NuI.miss {xs cl : List Int} {r : Nat → Nat} {k : Nat} (h : NuI xs cl r k) (hk : k < xs.length) (hn : ∀ (i : Nat), cl[i]? ≠ some xs[k]) : NuI xs (cl ++ [xs[k]]) (fun i => if i = k then cl.length else r i) (k + 1) := by
 have e : cv (fun i => if i = k then cl.length else r i) k = cv r k := cv_congr (fun i hi => by simp [show i ≠ k by omega])
 have hcnt := h.cnt
 have key : ∀ (a : Nat) v, (cl ++ [xs[k]])[a]? = some v → (a < cl.length ∧ cl[a]? = some v) ∨ (a = cl.length ∧ v = xs[k]) := fun a v ha => by
  by_cases hl : a < cl.length
  ·rw [List.getElem?_append_left hl] at ha; exact .inl ⟨hl, ha⟩
  ·have := (List.getElem?_eq_some_iff.1 ha).1
   simp at this
   have e : a = cl.length := by omega
   subst e
   simp at ha
   exact .inr ⟨rfl, ha.symm⟩
 refine ⟨by omega, fun i v hi hv => ?_, fun a b v ha hb => ?_, ?_, fun q hq => ?_⟩
 ·by_cases eq : i = k
  ·subst eq
   rw [List.getElem?_eq_getElem hk] at hv
   injection hv with hv
   simp [hv]
  ·simp only [if_neg eq]
   have := h.at_ i v (by omega) hv
   rw [List.getElem?_append_left (List.getElem?_eq_some_iff.1 this).1]
   exact this
 ·rcases key a v ha with ⟨a1, a2⟩ | ⟨a1, a2⟩ <;> rcases key b v hb with ⟨b1, b2⟩ | ⟨b1, b2⟩
  ·exact h.nd a b v a2 b2
  ·exact absurd (b2 ▸ a2) (hn a)
  ·exact absurd (a2 ▸ b2) (hn b)
  ·omega
 ·show (if (if k = k then cl.length else r k) = cv _ k then cv _ k + 1 else cv _ k) = _
  rw [e]
  simp only [if_true]
  rw [if_pos (by omega)]
  simp; omega
 ·by_cases eq : q = k
  ·subst eq
   rw [e]
   simp only [if_true]
   omega
  ·rw [cv_congr (q := r) (fun i hi => by simp [show i ≠ k by omega])]
   simp only [if_neg eq]
   exact h.ok q (by omega)
end Go.Proofs.YtnffigeofdagfaaDoor.M
