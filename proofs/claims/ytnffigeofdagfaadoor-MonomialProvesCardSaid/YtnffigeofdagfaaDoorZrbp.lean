/-
  Walks in my logic: Valid, Image (relation), steps$1 and Subset$1 (dfa).
  Walks in my logic: steps$1 and Subset$1 (dfa) for the reversed automaton.
  Walks in my logic: numbering and explore (dfa) of sets.
-/
import Derived.Test.YtnffigeofdagfaaDoorZrbn
import Derived.Test.YtnffigeofdagfaaDoorZrbo
import Derived.Test.YtnffigeofdagfaaDoorZrau
namespace Go.Proofs.YtnffigeofdagfaaDoor.M
open Go.RowKit
set_option linter.unusedVariables false
attribute [local simp] KL_ap KD_ap awpL_nil awpL_cons awpD_nil awpD_cons awpOp awpOpD wrE gd aop aBuiltin aNil aMin ASt.eval AV.ofV dstOk ASt.app Eff.heap dels upd_b aLoad aStore aField aFieldV aIndexAddr aIndex aSlice aSliceO aLen aBin iB sB aUn aConv aAlloc aBox aBuild afill avCells AV.leaf setR aBuildSlice frz frzL isOwn vecOf tsOf aMake srcOf aAppend aMkMap aMapUpd aLookup oint cut putL AObj.cnt mkS envOf_nil envOf_cons heapOf_nil heapOf_cons argS Nat.blt_eq callS outV outVs outO heap2 addL delL List.getElem?_cons_zero wkE wkP wkPs wkH wkO keysNd unm mpOf_nil mpOf_cons ghA ghA1 okO inPs inP
set_option linter.unusedSimpArgs false

def RelOK (r : List Nat) (n : Nat) : Prop := r.length = n ∧ ∀ x ∈ r, x < 2 ^ n
set_option maxRecDepth 100000 in
set_option maxHeartbeats 4000000 in
theorem relValid_fn {r : List Nat} {n : Nat} (h : RelOK r n) (hn : n ≤ 63) : FnA Tryd.prog 132 [.t 0 (.sl 1 (u64T r))] (.t 2 (.bool true)) := by
 have hl := h.1
 have hpt := points_fn hn
 refine fn_intro Tryd.func132 rfl (by simp [Tryd.f132]) ?_
 rw [show Tryd.f132.ntmps = 21 from rfl, show Tryd.f132.results = #[.tmp 2] from rfl]
 have h64 : ¬ (64 : Int) < (n : Int) := by omega
 refine awp_seqR fun K hK => ?_
 simp (disch := omega) [ints, rows, scal, wr64, wr8]
 (repeat' first | apply hK | apply And.intro) <;> try first | (show okH _ _ _ = true; kernel_rfl) | omega | rfl | (simp <;> omega)
 refine awp_seq ?_
 refine awp_seqR fun K hK => ?_
 simp (disch := omega) [ints, rows, scal, wr64, wr8, hl, h64]
 (repeat' first | apply hK | apply And.intro) <;> try first | (show okH _ _ _ = true; kernel_rfl) | omega | rfl | (simp <;> omega)
 refine awp_cond (b := false) (p := 2) (by simp [scal, h64] <;> omega) ?_
 refine awp_skip ?_
 show awp _ _ _ _
 refine awp_seq ?_
 refine awp_seqR fun K hK => ?_
 simp (disch := omega) [ints, rows, scal, wr64, wr8, hl]
 (repeat' first | apply hK | apply And.intro) <;> try first | (show okH _ _ _ = true; kernel_rfl) | omega | rfl | (simp <;> omega)
 refine awp_block ?_
 refine awp_loop (fun i : Nat => mkS [(0, .t 0 (.sl 1 (u64T r))), (8, .t 0 (.sl 1 (u64T r))), (9, .t 2 (.int .i64 n)), (10, .t 2 (.int .i64 i))] [] 0 21 [.any]) (fun i => i ≤ n) (fun i => n - i) ?_ ?_
 ·refine ⟨0, by omega, ?_⟩
  refine wk_list [] rfl ?_ ?_ ?_ ?_
  all_goals try simp [ints, hl]
 intro i hi
 refine awp_seqR fun K hK => ?_
 simp (disch := omega) [ints, rows, scal, wr64, wr8]
 (repeat' first | apply hK | apply And.intro) <;> try first | (show okH _ _ _ = true; kernel_rfl) | omega | rfl | (simp <;> omega)
 refine awp_seq ?_
 by_cases hil : i < n
 ·have hir : i < r.length := by omega
  have hg := u64T_at hir
  have hand := andn_full (h.2 r[i] (by simp)) hn
  refine awp_cond (b := true) (p := 2) (by simp [scal, hil] <;> omega) ?_
  refine awp_skip ?_
  show awp _ _ _ _
  refine awp_seq ?_
  refine awp_block ?_
  refine awp_seqR fun K hK => ?_
  simp (disch := omega) [ints, rows, scal, wr64, wr8, hg, hir]
  (repeat' first | apply hK | apply And.intro) <;> try first | (show okH _ _ _ = true; kernel_rfl) | omega | rfl | (simp <;> omega)
  refine awp_seqR fun K hK => ?_
  simp (disch := omega) [ints, rows, scal, wr64, wr8, hl]
  (repeat' apply And.intro)
  all_goals (try omega)
  refine call_rule (caps := []) (hpt) [] [] 2 rfl rfl rfl rfl (by kernel_rfl) (by simp) ?_ trivial trivial rfl trivial trivial (by simp) ?_
  ·simp [scal, rows, ints]
  simp (disch := omega) [ints, rows, scal, wr64, wr8, hand]
  (repeat' first | apply hK | apply And.intro) <;> try first | (show okH _ _ _ = true; kernel_rfl) | omega | rfl | (simp <;> omega)
  refine awp_cond (b := false) (p := 2) (by simp [scal] <;> omega) ?_
  refine awp_skip ?_
  show awp _ _ _ _
  refine awp_R fun K hK => ?_
  simp (disch := omega) [ints, rows, scal, wr64, wr8]
  (repeat' first | apply hK | apply And.intro) <;> try first | (show okH _ _ _ = true; kernel_rfl) | omega | rfl | (simp <;> omega)
  refine ⟨i + 1, by omega, by omega, ?_⟩
  refine wk_list [] rfl ?_ ?_ ?_ ?_
  all_goals try simp [ints]
 ·refine awp_cond (b := false) (p := 2) (by simp [scal, hil] <;> omega) ?_
  refine awp_exit ?_
  show awp _ _ _ _
  refine awp_seqR fun K hK => ?_
  simp (disch := omega) [ints, rows, scal, wr64, wr8]
  (repeat' first | apply hK | apply And.intro) <;> try first | (show okH _ _ _ = true; kernel_rfl) | omega | rfl | (simp <;> omega)
  refine awp_ret ?_
  refine ⟨⟨.inr rfl, _, [], rfl, trivial, trivial, by simp, ?_⟩, by simp⟩
  simp
set_option maxRecDepth 100000 in
set_option maxHeartbeats 8000000 in
theorem image_fn' {r : List Nat} {n S : Nat} (h : RelOK r n) (hn : n ≤ 63) (hS : S < 2 ^ n) : ∃ res, (∃ R, R < 2 ^ n ∧ (∀ q, R.testBit q = true ↔ ∃ i, i < n ∧ S.testBit i = true ∧ (r.getD i 0).testBit q = true) ∧ res = .t 2 (.int .u64 (R : Nat))) ∧ FnS Tryd.prog 118 [.t 0 (.sl 1 (u64T r)), .t 2 (.int .u64 (S : Nat))] [] res [] := by
 have hl := h.1
 have hpt := points_fn hn
 have hval := relValid_fn h hn
 have h63 : 2 ^ n ≤ 2 ^ 63 := Nat.pow_le_pow_right (by omega) hn
 have hand : S &&& (2 ^ n - 1) = S := by rw [Nat.and_two_pow_sub_one_eq_mod, Nat.mod_eq_of_lt hS]
 have ha := andN (x := S) (y := 2 ^ n - 1) (by omega) (by omega)
 rw [hand] at ha
 obtain ⟨_, ⟨l, hl1, hl2, hl3, rfl⟩, hmem⟩ := members_fn (S := S) (by omega)
 have hln : ∀ q ∈ l, q < n := fun q hq => by
  have := (hl1 q).1 hq
  apply Classical.byContradiction
  intro hc
  rw [Nat.testBit_lt_two_pow (Nat.lt_of_lt_of_le hS (Nat.pow_le_pow_right (by omega) (by omega)))] at this
  cases this
 refine fn_introE Tryd.func118 rfl (by simp [Tryd.f118]) ?_
 rw [show Tryd.f118.ntmps = 30 from rfl, show Tryd.f118.results = #[.tmp 4] from rfl]
 refine awp_seqR fun K hK => ?_
 simp (disch := omega) [ints, rows, scal, wr64, wr8]
 (repeat' first | apply hK | apply And.intro) <;> try first | (show okH _ _ _ = true; kernel_rfl) | omega | rfl | (simp <;> omega)
 refine awp_seq ?_
 refine awp_seqR fun K hK => ?_
 simp (disch := omega) [ints, rows, scal, wr64, wr8]
 (repeat' apply And.intro)
 all_goals (try omega)
 refine call_rule (caps := []) (hval) [] [] 2 rfl rfl rfl rfl (by kernel_rfl) (by simp) ?_ trivial trivial rfl trivial trivial (by simp) ?_
 ·simp [scal, rows, ints]
 simp (disch := omega) [ints, rows, scal, wr64, wr8]
 (repeat' first | apply hK | apply And.intro) <;> try first | (show okH _ _ _ = true; kernel_rfl) | omega | rfl | (simp <;> omega)
 refine awp_cond (b := false) (p := 2) (by simp [scal] <;> omega) ?_
 refine awp_skip ?_
 show awp _ _ _ _
 refine awp_seqR fun K hK => ?_
 simp (disch := omega) [ints, rows, scal, wr64, wr8]
 (repeat' first | apply hK | apply And.intro) <;> try first | (show okH _ _ _ = true; kernel_rfl) | omega | rfl | (simp <;> omega)
 refine awp_seq ?_
 refine awp_seqR fun K hK => ?_
 simp (disch := omega) [ints, rows, scal, wr64, wr8, hl]
 (repeat' apply And.intro)
 all_goals (try omega)
 refine call_rule (caps := []) (hpt) [] [] 2 rfl rfl rfl rfl (by kernel_rfl) (by simp) ?_ trivial trivial rfl trivial trivial (by simp) ?_
 ·simp [scal, rows, ints]
 simp (disch := omega) [ints, rows, scal, wr64, wr8, ha]
 (repeat' apply And.intro)
 all_goals (try omega)
 refine call_rule (caps := []) (hmem) [] [] 2 rfl rfl rfl rfl (by kernel_rfl) (by simp) ?_ trivial trivial rfl trivial trivial (by simp) ?_
 ·simp [scal, rows, ints]
 simp (disch := omega) [ints, rows, scal, wr64, wr8]
 (repeat' first | apply hK | apply And.intro) <;> try first | (show okH _ _ _ = true; kernel_rfl) | omega | rfl | (simp <;> omega)
 refine awp_block ?_
 refine awp_loop (fun y : Nat × Nat => mkS [(0, .t 0 (.sl 1 (u64T r))), (5, .t 2 (.int .u64 (y.2 : Nat))), (16, .t 2 (.sl 1 (natsT l))), (17, .t 2 (.int .i64 l.length)), (18, .t 2 (.int .i64 y.1))] [] 0 30 [.any, .any])
  (fun y => y.1 ≤ l.length ∧ y.2 < 2 ^ n ∧ ∀ q, y.2.testBit q = true ↔ ∃ i, i ∈ l.take y.1 ∧ (r.getD i 0).testBit q = true) (fun y => l.length - y.1) ?_ ?_
 ·refine ⟨(0, 0), ⟨by simp, Nat.two_pow_pos n, by simp⟩, ?_⟩
  refine wk_list [] rfl ?_ ?_ ?_ ?_
  all_goals try simp [ints, natsT]
 rintro ⟨i, R⟩ ⟨hi, hR, hb⟩
 simp only at hi hR hb
 refine awp_seqR fun K hK => ?_
 simp (disch := omega) [ints, rows, scal, wr64, wr8]
 (repeat' first | apply hK | apply And.intro) <;> try first | (show okH _ _ _ = true; kernel_rfl) | omega | rfl | (simp <;> omega)
 refine awp_seq ?_
 by_cases hil : i < l.length
 ·have hv : l[i]? = some l[i] := List.getElem?_eq_getElem hil
  have hvg := natsT_at hv
  have hvn := hln l[i] (by simp)
  have hvr : l[i] < r.length := by omega
  have hg := u64T_at hvr
  have hx : r[l[i]] < 2 ^ n := h.2 _ (by simp)
  have ho := orN (x := R) (y := r[l[i]]) (by omega) (by omega)
  refine awp_cond (b := true) (p := 2) (by simp [scal, hil] <;> omega) ?_
  refine awp_skip ?_
  show awp _ _ _ _
  refine awp_seq ?_
  refine awp_block ?_
  refine awp_seqR fun K hK => ?_
  simp (disch := omega) [ints, rows, scal, wr64, wr8, hvg]
  (repeat' first | apply hK | apply And.intro) <;> try first | (show okH _ _ _ = true; kernel_rfl) | omega | rfl | (simp <;> omega)
  refine awp_R fun K hK => ?_
  simp (disch := omega) [ints, rows, scal, wr64, wr8, hg, hvr, ho]
  (repeat' first | apply hK | apply And.intro) <;> try first | (show okH _ _ _ = true; kernel_rfl) | omega | rfl | (simp <;> omega)
  show awp _ _ _ _
  refine awp_R fun K hK => ?_
  simp (disch := omega) [ints, rows, scal, wr64, wr8]
  (repeat' first | apply hK | apply And.intro) <;> try first | (show okH _ _ _ = true; kernel_rfl) | omega | rfl | (simp <;> omega)
  refine ⟨(i + 1, R ||| r[l[i]]), ⟨by simp only; omega, Nat.or_lt_two_pow hR hx, fun q => ?_⟩, by simp only; omega, ?_⟩
  ·have hgd : r.getD l[i] 0 = r[l[i]] := by rw [List.getD_eq_getElem?_getD, List.getElem?_eq_getElem hvr]; rfl
   rw [Nat.testBit_or, Bool.or_eq_true, hb q, List.take_succ_eq_append_getElem hil]
   constructor
   ·rintro (⟨j, h1, h2⟩ | h2)
    ·exact ⟨j, List.mem_append_left _ h1, h2⟩
    ·exact ⟨l[i], List.mem_append_right _ (List.mem_singleton.2 rfl), by rw [hgd]; exact h2⟩
   ·rintro ⟨j, h1, h2⟩
    rcases List.mem_append.1 h1 with g | g
    ·exact .inl ⟨j, g, h2⟩
    ·simp only [List.mem_singleton] at g
     right
     rw [← hgd, ← g]; exact h2
  ·refine wk_list [] rfl ?_ ?_ ?_ ?_
   all_goals try simp [ints]
 ·obtain rfl : i = l.length := by omega
  rw [List.take_length] at hb
  refine awp_cond (b := false) (p := 2) (by simp [scal] <;> omega) ?_
  refine awp_exit ?_
  show awp _ _ _ _
  refine awp_seqR fun K hK => ?_
  simp (disch := omega) [ints, rows, scal, wr64, wr8]
  (repeat' first | apply hK | apply And.intro) <;> try first | (show okH _ _ _ = true; kernel_rfl) | omega | rfl | (simp <;> omega)
  refine awp_ret ?_
  refine ⟨_, ⟨R, hR, fun q => ?_, rfl⟩, ?_⟩
  ·rw [hb q]
   constructor
   ·rintro ⟨j, h1, h2⟩
    exact ⟨j, hln j h1, (hl1 j).1 h1, h2⟩
   ·rintro ⟨j, h1, h2, h3⟩
    exact ⟨j, (hl1 j).2 h2, h3⟩
  ·refine ⟨⟨.inr rfl, _, [], rfl, trivial, trivial, by simp, ?_⟩, by simp⟩
   simp

attribute [local simp] KL_ap KD_ap awpL_nil awpL_cons awpD_nil awpD_cons awpOp awpOpD wrE gd aop aBuiltin aNil aMin ASt.eval AV.ofV dstOk ASt.app Eff.heap dels upd_b aLoad aStore aField aFieldV aIndexAddr aIndex aSlice aSliceO aLen aBin iB sB aUn aConv aAlloc aBox aBuild afill avCells AV.leaf setR aBuildSlice frz frzL isOwn vecOf tsOf aMake srcOf aAppend aMkMap aMapUpd aLookup oint cut putL AObj.cnt mkS envOf_nil envOf_cons heapOf_nil heapOf_cons argS Nat.blt_eq callS outV outVs outO heap2 addL delL List.getElem?_cons_zero okO inPs inP ghA ghA1 wkPs wkP unm
set_option linter.unusedSimpArgs false

def preS (m : Nat) (nx : List (List Int)) (x p : Nat) : Nat := mkM (fun q => decide (stepR nx q x = p)) m
def preL (m : Nat) (nx : List (List Int)) (x : Nat) : List Nat := tab m fun p => preS m nx x p
def nextT (L m : Nat) (nx : List (List Int)) : T := .sl 1 (tab L fun x => .sl 1 (u64T (preL m nx x)))
theorem preL_ok (m : Nat) (nx : List (List Int)) (x : Nat) : RelOK (preL m nx x) m := ⟨by simp [preL], fun y hy => by
 simp only [preL, tab, List.mem_map, List.mem_range] at hy
 obtain ⟨p, hp, rfl⟩ := hy
 exact mkM_lt _ _⟩
theorem preL_at {m : Nat} {nx : List (List Int)} {x p : Nat} (hp : p < m) : (preL m nx x).getD p 0 = preS m nx x p := by
 rw [List.getD_eq_getElem?_getD, preL, tab_get _ hp]
 rfl
theorem img_eq {L m s : Nat} {bs : List Bool} {nx : List (List Int)} (hD : DfL L m s bs nx) {S x R : Nat} (hx : x < L) (hR : R < 2 ^ m) (h : ∀ q, R.testBit q = true ↔ ∃ i, i < m ∧ S.testBit i = true ∧ ((preL m nx x).getD i 0).testBit q = true) : R = imgM m nx S x := by
 refine bits_eq hR (imgM_lt m nx S x) (fun q hq => ?_)
 have hs := (hD.rt.step hq hx).1
 rw [Bool.eq_iff_iff, h q, imgM, mkM_bit, decide_eq_true hq, Bool.true_and]
 constructor
 ·rintro ⟨i, h1, h2, h3⟩
  rw [preL_at h1, preS, mkM_bit, decide_eq_true hq, Bool.true_and, decide_eq_true_eq] at h3
  rw [h3]; exact h2
 ·intro h2
  exact ⟨_, hs, h2, by rw [preL_at hs, preS, mkM_bit]; simp [hq]⟩
set_option maxRecDepth 100000 in
set_option maxHeartbeats 4000000 in
theorem steps1_fn {L m s S x : Nat} {bs : List Bool} {nx : List (List Int)} (hD : DfL L m s bs nx) (hm : m ≤ 63) (hS : S < 2 ^ m) (hx : x < L) : FnA Tryd.prog 117 [.t 2 (.int .u64 (S : Nat)), .t 2 (.int .i64 x), .pt 0 [nextT L m nx]] (.t 2 (.int .u64 (imgM m nx S x : Nat))) := by
 obtain ⟨_, ⟨R, hR, hb, rfl⟩, himg⟩ := image_fn' (preL_ok m nx x) hm hS
 rw [← img_eq hD hx hR hb]
 refine fn_intro Tryd.func117 rfl (by simp [Tryd.f117]) ?_
 rw [show Tryd.f117.ntmps = 12 from rfl, show Tryd.f117.results = #[.tmp 5] from rfl]
 refine awp_seqR fun K hK => ?_
 simp (disch := omega) [ints, rows, scal, wr64, wr8]
 (repeat' first | apply hK | apply And.intro) <;> try first | (show okH _ _ _ = true; kernel_rfl) | omega | rfl | (simp <;> omega)
 refine awp_seqR fun K hK => ?_
 simp (disch := omega) [ints, rows, scal, wr64, wr8, nextT, hx]
 (repeat' apply And.intro)
 all_goals (try omega)
 refine call_rule (caps := []) (himg) [] [] 2 rfl rfl rfl rfl (by kernel_rfl) (by simp) ?_ trivial trivial rfl trivial trivial (by simp) ?_
 ·simp [scal, rows, ints]
 simp (disch := omega) [ints, rows, scal, wr64, wr8]
 (repeat' first | apply hK | apply And.intro) <;> try first | (show okH _ _ _ = true; kernel_rfl) | omega | rfl | (simp <;> omega)
 refine awp_ret ?_
 refine ⟨⟨.inr rfl, _, [], rfl, trivial, trivial, by simp, ?_⟩, by simp⟩
 simp
theorem and_one_bit (S : Nat) : decide (S &&& 1 ≠ 0) = S.testBit 0 := by
 rw [Nat.testBit_zero, Nat.and_one_is_mod]
 by_cases h : S % 2 = 1
 ·simp [h]
 ·simp [show S % 2 = 0 by omega]
def nfC (L m st fi : Nat) (ed : T) : List T := [.int .i64 L, .int .i64 m, .int .u64 (st : Nat), .int .u64 (fi : Nat), ed]
set_option maxRecDepth 100000 in
set_option maxHeartbeats 4000000 in
theorem subset1_fn {L m S st : Nat} {ed : T} (hS : S < 18446744073709551616) : FnA Tryd.prog 106 [.t 2 (.int .u64 (S : Nat)), .pt 0 (nfC L m st 1 ed)] (.t 2 (.bool (S.testBit 0))) := by
 obtain ⟨c, hc⟩ : ∃ c, c = S &&& 1 := ⟨_, rfl⟩
 have ha : andI .u64 (S : Int) 1 = (c : Int) := by rw [hc]; exact andN (x := S) (y := 1) hS (by omega)
 have hb : S.testBit 0 = decide (c ≠ 0) := by rw [hc]; exact (and_one_bit S).symm
 refine fn_intro Tryd.func106 rfl (by simp [Tryd.f106]) ?_
 rw [show Tryd.f106.ntmps = 9 from rfl, show Tryd.f106.results = #[.tmp 3] from rfl]
 refine awp_seqR fun K hK => ?_
 simp (disch := omega) [ints, rows, scal, wr64, wr8, nfC]
 (repeat' first | apply hK | apply And.intro) <;> try first | (show okH _ _ _ = true; kernel_rfl) | omega | rfl | (simp <;> omega)
 by_cases h0 : c = 0
 ·have hb2 : S.testBit 0 = false := by rw [hb]; simp [h0]
  refine awp_seqR fun K hK => ?_
  simp (disch := omega) [ints, rows, scal, wr64, wr8, ha, h0]
  (repeat' first | apply hK | apply And.intro) <;> try first | (show okH _ _ _ = true; kernel_rfl) | omega | rfl | (simp <;> omega)
  refine awp_ret ?_
  refine ⟨⟨.inr rfl, _, [], rfl, trivial, trivial, by simp [hb2], ?_⟩, by simp [hb2]⟩
  simp [hb2]
 ·have hb2 : S.testBit 0 = true := by rw [hb]; simp [h0]
  have h0b : ((c : Int) != 0) = true := bne_iff_ne.2 (by omega)
  refine awp_seqR fun K hK => ?_
  simp (disch := omega) [ints, rows, scal, wr64, wr8, ha, h0b]
  (repeat' first | apply hK | apply And.intro) <;> try first | (show okH _ _ _ = true; kernel_rfl) | omega | rfl | (simp <;> omega)
  refine awp_ret ?_
  refine ⟨⟨.inr rfl, _, [], rfl, trivial, trivial, by simp [hb2, h0], ?_⟩, by simp [hb2, h0]⟩
  simp [hb2, h0]

attribute [local simp] KL_ap KD_ap awpL_nil awpL_cons awpD_nil awpD_cons awpOp awpOpD wrE gd aop aBuiltin aNil aMin ASt.eval AV.ofV dstOk ASt.app Eff.heap dels upd_b aLoad aStore aField aFieldV aIndexAddr aIndex aSlice aSliceO aLen aBin iB sB aUn aConv aAlloc aBox aBuild afill avCells AV.leaf setR aBuildSlice frz frzL isOwn vecOf tsOf aMake srcOf aAppend aMkMap aMapUpd aLookup oint cut putL AObj.cnt mkS envOf_nil envOf_cons heapOf_nil heapOf_cons argS Nat.blt_eq callS outV outVs outO heap2 addL delL List.getElem?_cons_zero wkE wkP wkPs wkH wkO idxF keysNd unm mpOf_nil mpOf_cons resV ghA ghA1 ndL okO inPs inP inOs inO
set_option linter.unusedSimpArgs false

@[simp] theorem mpTy_ui : mpTy Tryd.prog 168 = some (73, 3) := by kernel_rfl
@[simp] theorem mpB_ui : mpB Tryd.prog 168 = true := by kernel_rfl
@[simp] theorem elOf_ui : elOf Tryd.prog 168 = none := by kernel_rfl
@[simp] theorem kOK_u64 (x : Int) : kOK Tryd.prog 73 (.int .u64 x) = true := by
 show decide (intB Tryd.prog 73 = some .u64) = true
 kernel_rfl
theorem u64T_snoc (ds : List Nat) (x : Nat) : u64T (ds ++ [x]) = u64T ds ++ [.int .u64 (x : Int)] := by simp [u64T]
def unT (x : Nat) : T := .int .u64 (x : Int)
def nbU (ds : List Nat) : List AObj := [.box 173 [.own 1 ds.length, .own 2 0], .row 73 1 1 (u64T ds), .map 73 3 (kents unT 0 ds)]
theorem unT_eq (x y : Nat) : kEq (unT x) (unT y) = decide (x = y) := by
 simp only [unT, kEq]
 rw [Bool.eq_iff_iff]
 simp
 omega
set_option maxRecDepth 100000 in
set_option maxHeartbeats 4000000 in
theorem nbuf_nil (x : Nat) : FnS Tryd.prog 116 [.ptr 0 0 2, .t 2 (.int .u64 (x : Nat))] [.box 173 [.t 1 (.sl 0 []), .t 1 .nilm]] (.t 2 (.int .i64 0)) (nbU [x]) := by
 have hz1 : zero1 Tryd.prog 3 = some (.int .i64 0) := by kernel_rfl
 refine fn_intro Tryd.func116 rfl (by simp [Tryd.f116]) ?_
 rw [show Tryd.f116.ntmps = 49 from rfl, show Tryd.f116.results = #[.tmp 4] from rfl]
 refine awp_seqR fun K hK => ?_
 simp (disch := omega) [ints, rows, scal, wr64, wr8]
 (repeat' first | apply hK | apply And.intro) <;> try first | (show okH _ _ _ = true; kernel_rfl) | omega | rfl | (simp <;> omega)
 refine awp_seqR fun K hK => ?_
 simp (disch := omega) [ints, rows, scal, wr64, wr8, keyL, hz1]
 (repeat' first | apply hK | apply And.intro) <;> try first | (show okH _ _ _ = true; kernel_rfl) | omega | rfl | (simp <;> omega)
 refine awp_seq ?_
 refine awp_seqR fun K hK => ?_
 simp (disch := omega) [ints, rows, scal, wr64, wr8]
 (repeat' first | apply hK | apply And.intro) <;> try first | (show okH _ _ _ = true; kernel_rfl) | omega | rfl | (simp <;> omega)
 refine awp_cond (b := true) (p := 2) (by simp [scal] <;> omega) ?_
 refine awp_seq ?_
 refine awp_seqR fun K hK => ?_
 simp (disch := omega) [ints, rows, scal, wr64, wr8]
 (repeat' first | apply hK | apply And.intro) <;> try first | (show okH _ _ _ = true; kernel_rfl) | omega | rfl | (simp <;> omega)
 refine awp_cond (b := true) (p := 2) (by simp [scal] <;> omega) ?_
 refine awp_R fun K hK => ?_
 simp (disch := omega) [ints, rows, scal, wr64, wr8]
 (repeat' first | apply hK | apply And.intro) <;> try first | (show okH _ _ _ = true; kernel_rfl) | omega | rfl | (simp <;> omega)
 show awp _ _ _ _
 refine awp_seqR fun K hK => ?_
 simp (disch := omega) [ints, rows, scal, wr64, wr8]
 (repeat' first | apply hK | apply And.intro) <;> try first | (show okH _ _ _ = true; kernel_rfl) | omega | rfl | (simp <;> omega)
 refine awp_seqR fun K hK => ?_
 simp (disch := omega) [ints, rows, scal, wr64, wr8, keyL, fndT]
 (repeat' first | apply hK | apply And.intro) <;> try first | (show okH _ _ _ = true; kernel_rfl) | omega | rfl | (simp <;> omega)
 refine awp_R fun K hK => ?_
 simp (disch := omega) [ints, rows, scal, wr64, wr8]
 (repeat' first | apply hK | apply And.intro) <;> try first | (show okH _ _ _ = true; kernel_rfl) | omega | rfl | (simp <;> omega)
 show awp _ _ _ _
 refine awp_seqR fun K hK => ?_
 simp (disch := omega) [ints, rows, scal, wr64, wr8]
 (repeat' first | apply hK | apply And.intro) <;> try first | (show okH _ _ _ = true; kernel_rfl) | omega | rfl | (simp <;> omega)
 refine awp_ret ?_
 refine ⟨⟨.inr rfl, _, [(0, some 0), (1, some 44000001), (2, some 20000001)], (by first | rfl | (simp [ints, rows, scal, tpO, nbU, kents, unT, u64T]; rfl)), ?_, ?_, ?_, ?_⟩, ?_⟩
 all_goals try simp [ints, rows, scal, tpO, nbU, kents, unT, u64T]
set_option maxRecDepth 100000 in
set_option maxHeartbeats 4000000 in
theorem nbuf_fn (x : Nat) (ds : List Nat) (hn : ds.length ≤ 100000) : FnS Tryd.prog 116 [.ptr 0 0 2, .t 2 (.int .u64 (x : Nat))] (nbU ds) (.t 2 (.int .i64 ((ofX x ds).2 : Nat))) (nbU (ofX x ds).1) := by
 have hz1 : zero1 Tryd.prog 3 = some (.int .i64 0) := by kernel_rfl
 have hfn : fndT (.int .u64 (x : Int)) (kents unT 0 ds) = ixA x ds := fndT_kents (f := unT) ds 0 (fun y _ => unT_eq x y)
 have hall := kents_all unT (P := Tryd.prog) (K := 73) (fun x => kOK_u64 x) ds 0
 refine fn_intro Tryd.func116 rfl (by simp [Tryd.f116]) ?_
 rw [show Tryd.f116.ntmps = 49 from rfl, show Tryd.f116.results = #[.tmp 4] from rfl]
 refine awp_seqR fun K hK => ?_
 simp (disch := omega) [ints, rows, scal, wr64, wr8, nbU]
 (repeat' first | apply hK | apply And.intro) <;> try first | (show okH _ _ _ = true; kernel_rfl) | omega | rfl | (simp <;> omega)
 cases hx : ixA x ds with
 | some j =>
  have hj := ixA_get hx
  have hje := kents_get unT ds 0 j _ hj
  have hof : ofX x ds = (ds, j) := by simp [ofX, hx]
  refine awp_seqR fun K hK => ?_
  simp (disch := omega) [ints, rows, scal, wr64, wr8, keyL, hfn, hx, hall, hz1, hje]
  (repeat' first | apply hK | apply And.intro) <;> try first | (show okH _ _ _ = true; kernel_rfl) | omega | rfl | (simp <;> omega)
  refine awp_seq ?_
  refine awp_seqR fun K hK => ?_
  simp (disch := omega) [ints, rows, scal, wr64, wr8]
  (repeat' first | apply hK | apply And.intro) <;> try first | (show okH _ _ _ = true; kernel_rfl) | omega | rfl | (simp <;> omega)
  refine awp_cond (b := false) (p := 2) (by simp [scal] <;> omega) ?_
  refine awp_skip ?_
  show awp _ _ _ _
  refine awp_seqR fun K hK => ?_
  simp (disch := omega) [ints, rows, scal, wr64, wr8]
  (repeat' first | apply hK | apply And.intro) <;> try first | (show okH _ _ _ = true; kernel_rfl) | omega | rfl | (simp <;> omega)
  refine awp_ret ?_
  refine ⟨⟨.inr rfl, _, [(0, some 0), (1, some 1), (2, some 2)], (by first | rfl | (simp [ints, rows, scal, tpO, nbU, hof]; rfl)), ?_, ?_, ?_, ?_⟩, ?_⟩
  all_goals try simp [ints, rows, scal, tpO, nbU, hof]
 | none =>
  have hof : ofX x ds = (ds ++ [x], ds.length) := by simp [ofX, hx]
  refine awp_seqR fun K hK => ?_
  simp (disch := omega) [ints, rows, scal, wr64, wr8, keyL, hfn, hx, hall, hz1]
  (repeat' first | apply hK | apply And.intro) <;> try first | (show okH _ _ _ = true; kernel_rfl) | omega | rfl | (simp <;> omega)
  refine awp_seq ?_
  refine awp_seqR fun K hK => ?_
  simp (disch := omega) [ints, rows, scal, wr64, wr8]
  (repeat' first | apply hK | apply And.intro) <;> try first | (show okH _ _ _ = true; kernel_rfl) | omega | rfl | (simp <;> omega)
  refine awp_cond (b := true) (p := 2) (by simp [scal] <;> omega) ?_
  refine awp_seq ?_
  refine awp_seqR fun K hK => ?_
  simp (disch := omega) [ints, rows, scal, wr64, wr8]
  (repeat' first | apply hK | apply And.intro) <;> try first | (show okH _ _ _ = true; kernel_rfl) | omega | rfl | (simp <;> omega)
  refine awp_cond (b := false) (p := 2) (by simp [scal] <;> omega) ?_
  refine awp_skip ?_
  show awp _ _ _ _
  refine awp_seqR fun K hK => ?_
  simp (disch := omega) [ints, rows, scal, wr64, wr8]
  (repeat' first | apply hK | apply And.intro) <;> try first | (show okH _ _ _ = true; kernel_rfl) | omega | rfl | (simp <;> omega)
  refine awp_seqR fun K hK => ?_
  simp (disch := omega) [ints, rows, scal, wr64, wr8, keyL, hfn, hx, hall]
  (repeat' first | apply hK | apply And.intro) <;> try first | (show okH _ _ _ = true; kernel_rfl) | omega | rfl | (simp <;> omega)
  refine awp_R fun K hK => ?_
  simp (disch := omega) [ints, rows, scal, wr64, wr8]
  (repeat' first | apply hK | apply And.intro) <;> try first | (show okH _ _ _ = true; kernel_rfl) | omega | rfl | (simp <;> omega)
  show awp _ _ _ _
  refine awp_seqR fun K hK => ?_
  simp (disch := omega) [ints, rows, scal, wr64, wr8]
  (repeat' first | apply hK | apply And.intro) <;> try first | (show okH _ _ _ = true; kernel_rfl) | omega | rfl | (simp <;> omega)
  refine awp_ret ?_
  refine ⟨⟨.inr rfl, _, [(0, some 0), (1, some 1), (2, some 2)], (by first | rfl | (simp [ints, rows, scal, tpO, nbU, hof, kents_snoc, u64T_snoc, unT]; rfl)), ?_, ?_, ?_, ?_⟩, ?_⟩
  all_goals try simp [ints, rows, scal, tpO, nbU, hof, kents_snoc, u64T_snoc, unT]
set_option maxRecDepth 100000 in
set_option maxHeartbeats 8000000 in
theorem exploreU_fn {L m s S0 st : Nat} {ed : T} {bs : List Bool} {nx : List (List Int)} (hD : DfL L m s bs nx) (hL : 1 ≤ L) (hL2 : L ≤ 6) (hm : m ≤ 9) (hS0 : S0 < 2 ^ m) : ∃ res, (∃ ss bs' nx', ExI L (2 ^ m) S0 (powB m) (powN L m nx) ss bs' nx' ss.length ∧ FO L (powN L m nx) ss (ss.length * L) ∧ res = .tup [dfT 2 L 0 bs' nx', .t 2 (.sl 1 (u64T ss)), .t 2 (.int .i64 0)]) ∧
  FnS Tryd.prog 104 [.t 2 (.int .i64 L), .t 2 (.int .u64 (S0 : Nat)), .fn 117 [.pt 0 [nextT L m nx]], .fn 106 [.pt 0 (nfC L m st 1 ed)]] [] res [] := by
 have h := pow_df L nx hS0
 have hn : 2 ^ m ≤ 512 := Nat.le_trans (Nat.pow_le_pow_right (by omega) hm) (by decide)
 obtain ⟨n, hn0⟩ : ∃ n, n = 2 ^ m := ⟨_, rfl⟩
 rw [← hn0] at h hn hS0 ⊢
 have hst := h.st
 refine fn_introE Tryd.func104 rfl (by simp [Tryd.f104]) ?_
 rw [show Tryd.f104.ntmps = 71 from rfl, show Tryd.f104.results = #[.cell 8 32, .tmp 9, .tmp 10] from rfl]
 refine awp_seqR fun K hK => ?_
 simp (disch := omega) [ints, rows, scal, wr64, wr8]
 (repeat' first | apply hK | apply And.intro) <;> try first | (show okH _ _ _ = true; kernel_rfl) | omega | rfl | (simp <;> omega)
 refine awp_seqR fun K hK => ?_
 simp (disch := omega) [ints, rows, scal, wr64, wr8]
 (repeat' first | apply hK | apply And.intro) <;> try first | (show okH _ _ _ = true; kernel_rfl) | omega | rfl | (simp <;> omega)
 refine awp_seqR fun K hK => ?_
 simp (disch := omega) [ints, rows, scal, wr64, wr8]
 (repeat' apply And.intro)
 all_goals (try omega)
 refine call_rule (caps := []) (nbuf_nil S0) [3000000] [3000000, 5000000, 5000001] 2 rfl rfl rfl rfl (by kernel_rfl) (by simp) ?_ ?_ (by simp) rfl (by simp) ⟨.inr ⟨rfl, 0, _, _, _, _, _, rfl, rfl, (by first | rfl | simp [nbU]), rfl, (by first | rfl | simp [nbU])⟩, .inl ⟨by omega, by omega⟩, .inl ⟨by omega, by omega⟩, trivial⟩ (by simp [nbU]) ?_
 ·simp [scal, rows, ints, nbU]
 ·simp [scal, rows, ints, nbU]
 simp (disch := omega) [ints, rows, scal, wr64, wr8, nbU]
 (repeat' first | apply hK | apply And.intro) <;> try first | (show okH _ _ _ = true; kernel_rfl) | omega | rfl | (simp <;> omega)
 refine awp_seqR fun K hK => ?_
 simp (disch := omega) [ints, rows, scal, wr64, wr8]
 (repeat' first | apply hK | apply And.intro) <;> try first | (show okH _ _ _ = true; kernel_rfl) | omega | rfl | (simp <;> omega)
 refine awp_seq ?_
 refine awp_seqR fun K hK => ?_
 simp (disch := omega) [ints, rows, scal, wr64, wr8]
 (repeat' first | apply hK | apply And.intro) <;> try first | (show okH _ _ _ = true; kernel_rfl) | omega | rfl | (simp <;> omega)
 refine awp_block ?_
 refine awp_loop (fun y : Nat × List Nat × List Bool × List (List Int) => mkS [(0, .t 2 (.int .i64 L)), (2, .fn 117 [.pt 0 [nextT L m nx]]), (3, .fn 106 [.pt 0 (nfC L m st 1 ed)]), (8, .ptr 1 0 4), (11, .ptr 2 0 2), (12, .ptr 3 0 4), (13, .t 2 (.int .i64 y.1))]
  [(1, .box 32 [.any, .any, .any, .any]), (2, .box 173 [.own 4 y.2.1.length, .own 5 0]), (3, .box 32 [.t 2 (.int .i64 L), .t 2 (.int .i64 0), .own 6 y.1, .own 7 y.1]), (4, .row 73 1 2 (u64T y.2.1)), (5, .map 73 3 (kents unT 0 y.2.1)), (6, .row 4 1 2 (y.2.2.1.map .bool)), (7, .row 22 1 2 (y.2.2.2.map ints))]
  8 71 [.any, .any, .any, .any]) (fun y => ExI L n S0 (powB m) (powN L m nx) y.2.1 y.2.2.1 y.2.2.2 y.1 ∧ FO L (powN L m nx) y.2.1 (y.1 * L)) (fun y => n - y.1) ?_ ?_
 ·refine ⟨(0, [S0], [], []), ⟨ExI.start hst, FO.start⟩, ?_⟩
  refine wk_list [(1, some 0), (2, some 3000000), (3, some 8000000), (4, some 5000000), (5, some 5000001), (6, none), (7, none)] rfl ?_ ?_ ?_ ?_
  all_goals try simp [ints, nbU, rows, bools, u64T, kents, unT]
 rintro ⟨i, ss, bs', nx'⟩ ⟨hE, hF⟩
 simp only at hE hF
 have hbl := hE.bl
 have hnl := hE.nl
 have hsl := hE.len
 have hile := hE.le
 refine awp_seq ?_
 refine awp_seqR fun K hK => ?_
 simp (disch := omega) [ints, rows, scal, wr64, wr8]
 (repeat' first | apply hK | apply And.intro) <;> try first | (show okH _ _ _ = true; kernel_rfl) | omega | rfl | (simp <;> omega)
 by_cases hil : i < ss.length
 ·refine awp_cond (b := true) (p := 2) (by simp [scal, hil] <;> omega) ?_
  obtain ⟨q, hq⟩ : ∃ q, ss[i]? = some q := ⟨_, List.getElem?_eq_getElem hil⟩
  have hqn := hE.lt q (List.mem_of_getElem? hq)
  have hqg : (u64T ss)[i]? = some (.int .u64 (q : Int)) := by rw [u64T, List.getElem?_map, hq]; rfl
  refine awp_skip ?_
  show awp _ _ _ _
  refine awp_seq ?_
  refine awp_block ?_
  refine awp_seqR fun K hK => ?_
  simp (disch := omega) [ints, rows, scal, wr64, wr8, hqg]
  (repeat' first | apply hK | apply And.intro) <;> try first | (show okH _ _ _ = true; kernel_rfl) | omega | rfl | (simp <;> omega)
  refine awp_seqR fun K hK => ?_
  simp (disch := omega) [ints, rows, scal, wr64, wr8]
  (repeat' first | apply hK | apply And.intro) <;> try first | (show okH _ _ _ = true; kernel_rfl) | omega | rfl | (simp <;> omega)
  refine awp_seq ?_
  refine awp_seqR fun K hK => ?_
  simp (disch := omega) [ints, rows, scal, wr64, wr8]
  (repeat' first | apply hK | apply And.intro) <;> try first | (show okH _ _ _ = true; kernel_rfl) | omega | rfl | (simp <;> omega)
  refine awp_block ?_
  refine awp_loop (fun y : Nat × List Nat × List Int => mkS [(0, .t 2 (.int .i64 L)), (2, .fn 117 [.pt 0 [nextT L m nx]]), (3, .fn 106 [.pt 0 (nfC L m st 1 ed)]), (8, .ptr 1 0 4), (11, .ptr 2 0 2), (12, .ptr 3 0 4), (13, .t 2 (.int .i64 i)), (14, .t 2 (.int .u64 (q : Nat))), (15, .own 8 L), (36, .t 2 (.int .i64 L)), (37, .t 2 (.int .i64 y.1))]
   [(1, .box 32 [.any, .any, .any, .any]), (2, .box 173 [.own 4 y.2.1.length, .own 5 0]), (3, .box 32 [.t 2 (.int .i64 L), .t 2 (.int .i64 0), .own 6 i, .own 7 i]), (4, .row 73 1 2 (u64T y.2.1)), (5, .map 73 3 (kents unT 0 y.2.1)), (6, .row 4 1 2 (bs'.map .bool)), (7, .row 22 1 2 (nx'.map ints)), (8, .row 3 1 2 (y.2.2.map (.int .i64)))]
   9 71 [.any, .any, .any, .any]) (fun y => ExI L n S0 (powB m) (powN L m nx) y.2.1 bs' nx' i ∧ y.2.1[i]? = some q ∧ y.2.2.length = L ∧ RowI (powN L m nx) y.2.1 q y.2.2 y.1 ∧ y.1 ≤ L ∧ FO L (powN L m nx) y.2.1 (i * L + y.1)) (fun y => L - y.1) ?_ ?_
  ·refine ⟨(0, ss, List.replicate L 0), ⟨hE, hq, by simp, fun y hy => by omega, by simp, hF⟩, ?_⟩
   refine wk_list [(1, some 1), (2, some 2), (3, some 3), (4, some 4), (5, some 5), (6, some 6), (7, some 7), (8, some 12000008)] rfl ?_ ?_ ?_ ?_
   all_goals try simp [ints, bools, rows]
  clear hE hF hq hqg hil hsl hile
  rintro ⟨x, ss, r⟩ ⟨hE, hq, hrl, hR, hx, hF⟩
  simp only at hE hq hrl hR hx hF
  have hsl := hE.len
  have hil := (List.getElem?_eq_some_iff.1 hq).1
  refine awp_seqR fun K hK => ?_
  simp (disch := omega) [ints, rows, scal, wr64, wr8]
  (repeat' first | apply hK | apply And.intro) <;> try first | (show okH _ _ _ = true; kernel_rfl) | omega | rfl | (simp <;> omega)
  refine awp_seq ?_
  by_cases hxl : x < L
  ·refine awp_cond (b := true) (p := 2) (by simp [scal, hxl] <;> omega) ?_
   have h1 := steps1_fn hD (by omega) (S := q) (by omega) hxl
   rw [← pow_step nx (S := q) (by omega) hxl] at h1
   obtain ⟨s1, -⟩ := h.rt.step hqn hxl
   generalize hv : stepR (powN L m nx) q x = v at h1 s1
   obtain ⟨hE2, ht, ys, hys⟩ := ofX_spec hE s1
   have h2 := nbuf_fn v ss (by omega)
   have hF2 := ofX_FO hF hE hq hR hxl hv
   generalize ofX v ss = p at hE2 ht hys h2 hF2
   obtain ⟨ss2, t⟩ := p
   simp only at hE2 ht hys h2 hF2
   have hq2 : ss2[i]? = some q := by rw [hys, List.getElem?_append_left hil]; exact hq
   have hR2 : RowI (powN L m nx) ss2 q (r.set x (t : Int)) (x + 1) := by
    refine RowI.set (by rw [hys]; exact hR.app ys) (by omega) ?_
    rw [hv]; exact ht
   refine awp_skip ?_
   show awp _ _ _ _
   refine awp_seq ?_
   refine awp_block ?_
   refine awp_seqR fun K hK => ?_
   simp (disch := omega) [ints, rows, scal, wr64, wr8]
   (repeat' first | apply hK | apply And.intro) <;> try first | (show okH _ _ _ = true; kernel_rfl) | omega | rfl | (simp <;> omega)
   refine awp_R fun K hK => ?_
   simp (disch := omega) [ints, rows, scal, wr64, wr8]
   (repeat' apply And.intro)
   all_goals (try omega)
   refine call_rule (caps := [.pt 0 [nextT L m nx]]) (h1) [] [] 1 rfl rfl rfl (by simp) (by first | assumption | kernel_rfl) (by simp) ?_ ?_ (by simp) rfl (by simp) trivial (by simp) ?_
   ·simp [scal, rows, ints]
   ·simp [scal, rows, ints]
   simp (disch := omega) [ints, rows, scal, wr64, wr8]
   (repeat' apply And.intro)
   all_goals (try omega)
   refine call_rule (caps := []) (h2) [2, 4, 5] [2, 9000009, 9000010] 2 rfl rfl rfl rfl (by kernel_rfl) (by simp) ?_ ?_ (by simp) rfl (by simp) ⟨.inr ⟨rfl, 0, _, _, _, _, _, rfl, rfl, (by first | rfl | simp [nbU]), rfl, (by first | rfl | simp [nbU])⟩, .inl ⟨by omega, by omega⟩, .inl ⟨by omega, by omega⟩, trivial⟩ (by simp [nbU]) ?_
   ·simp [scal, rows, ints, nbU]
   ·simp [scal, rows, ints, nbU]
   simp (disch := omega) [ints, rows, scal, wr64, wr8, nbU, hrl, hxl]
   (repeat' first | apply hK | apply And.intro) <;> try first | (show okH _ _ _ = true; kernel_rfl) | omega | rfl | (simp <;> omega)
   show awp _ _ _ _
   refine awp_R fun K hK => ?_
   simp (disch := omega) [ints, rows, scal, wr64, wr8]
   (repeat' first | apply hK | apply And.intro) <;> try first | (show okH _ _ _ = true; kernel_rfl) | omega | rfl | (simp <;> omega)
   refine ⟨(x + 1, ss2, r.set x (t : Int)), ⟨hE2, hq2, by simpa using hrl, hR2, by omega, hF2⟩, by simp only; omega, ?_⟩
   refine wk_list [(1, some 1), (2, some 2), (3, some 3), (4, some 9000009), (5, some 9000010), (6, some 6), (7, some 7), (8, some 8)] rfl ?_ ?_ ?_ ?_
   all_goals try simp [ints, nbU]
  ·obtain rfl : x = L := by omega
   have h3 := subset1_fn (L := x) (m := m) (st := st) (ed := ed) (S := q) (by omega)
   have hqb : (powB m)[q]? = some (q.testBit 0) := by
    exact tab_get _ (by omega)
   have h512 : ¬ (512 : Int) < (ss.length : Int) := by omega
   refine awp_cond (b := false) (p := 2) (by simp [scal] <;> omega) ?_
   refine awp_exit ?_
   show awp _ _ _ _
   refine awp_seq ?_
   refine awp_seqR fun K hK => ?_
   simp (disch := omega) [ints, rows, scal, wr64, wr8, h512]
   (repeat' first | apply hK | apply And.intro) <;> try first | (show okH _ _ _ = true; kernel_rfl) | omega | rfl | (simp <;> omega)
   refine awp_cond (b := false) (p := 2) (by simp [scal] <;> omega) ?_
   refine awp_skip ?_
   show awp _ _ _ _
   refine awp_seqR fun K hK => ?_
   simp (disch := omega) [ints, rows, scal, wr64, wr8]
   (repeat' first | apply hK | apply And.intro) <;> try first | (show okH _ _ _ = true; kernel_rfl) | omega | rfl | (simp <;> omega)
   refine awp_RD (by kernel_rfl) (fun K hK => ?_)
   simp (disch := omega) [ints, rows, scal, wr64, wr8]
   (repeat' apply And.intro)
   all_goals (try omega)
   refine call_ruleD (caps := [.pt 0 (nfC x m st 1 ed)]) (h3) [] [] 1 rfl rfl rfl (by simp) (by first | assumption | kernel_rfl) (by simp) ?_ ?_ (by simp) rfl (by simp) trivial (by simp) ?_
   ·simp [scal, rows, ints]
   ·simp [scal, rows, ints]
   simp (disch := omega) [ints, rows, scal, wr64, wr8]
   (repeat' first | apply hK | apply And.intro) <;> try first | (show chkD _ _ = true; kernel_rfl) | (show okH _ _ _ = true; kernel_rfl) | omega | rfl | (simp <;> omega)
   show awp _ _ _ _
   refine awp_R fun K hK => ?_
   simp (disch := omega) [ints, rows, scal, wr64, wr8]
   (repeat' first | apply hK | apply And.intro) <;> try first | (show okH _ _ _ = true; kernel_rfl) | omega | rfl | (simp <;> omega)
   refine ⟨(i + 1, ss, bs' ++ [q.testBit 0], nx' ++ [r]), ⟨hE.done hq hqb hrl hR, by simp only; rw [Nat.add_mul, Nat.one_mul]; exact hF⟩, by simp only; omega, ?_⟩
   refine wk_list [(1, some 1), (2, some 2), (3, some 3), (4, some 4), (5, some 5), (6, some 6), (7, some 7)] rfl ?_ ?_ ?_ ?_
   all_goals try simp [ints, hbl, hnl]
 ·have hi : i = ss.length := by omega
  subst hi
  refine awp_cond (b := false) (p := 2) (by simp [scal] <;> omega) ?_
  refine awp_exit ?_
  show awp _ _ _ _
  refine awp_seqD (by kernel_rfl) (fun K hK => ?_)
  simp (disch := omega) [ints, rows, scal, wr64, wr8]
  (repeat' first | apply hK | apply And.intro) <;> try first | (show chkD _ _ = true; kernel_rfl) | (show okH _ _ _ = true; kernel_rfl) | omega | rfl | (simp <;> omega)
  refine awp_ret ?_
  refine ⟨_, ⟨ss, bs', nx', hE, hF, rfl⟩, ?_⟩
  refine ⟨⟨.inr rfl, _, [], (by simp; rfl), trivial, trivial, by simp [dfT, bools, hbl, hnl], ?_⟩, by simp [dfT, bools, hbl, hnl]⟩
  simp [ints, rows, dfT, bools, hbl, hnl]
end Go.Proofs.YtnffigeofdagfaaDoor.M
