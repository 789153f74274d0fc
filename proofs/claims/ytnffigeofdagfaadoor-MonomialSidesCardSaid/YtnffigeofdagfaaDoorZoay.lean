/-
  Walks in my logic: Clone; visit, Right and known on the known automaton.
  Walks in my logic: arbitrary automata: Few, both Validates, and what Right, Left and Ordered of both sides say of an invalid one.
-/
import Derived.Test.YtnffigeofdagfaaDoorZoaw
import Derived.Test.YtnffigeofdagfaaDoorZoax
import Derived.Test.YtnffigeofdagfaaDoorZoar
namespace Go.Proofs.YtnffigeofdagfaaDoor.M
open Go.RowKit
set_option linter.unusedVariables false
set_option linter.unusedSimpArgs false

theorem wkTK_nil {H : Nat → Option AObj} {un : Nat → Prop} {q : Nat} : wkT H un q [] [] = True := eq_true ⟨rfl, fun j x y hx _ => by simp at hx⟩
theorem wkTK_cons {H : Nat → Option AObj} {un : Nat → Prop} {q : Nat} {a : AV} {t : T} {bs : List AV} {ts : List T} : wkT H un q (a :: bs) (t :: ts) = (wk1 H un q a t ∧ wkT H un q bs ts) := by
 apply propext
 constructor
 ·intro h
  exact ⟨h.2 0 a t rfl rfl, by simpa using h.1, fun j x y hx hy => h.2 (j + 1) x y (by simpa using hx) (by simpa using hy)⟩
 ·rintro ⟨h1, h2⟩
  refine ⟨by simpa using h2.1, fun j x y hx hy => ?_⟩
  cases j with
  | zero => simp at hx hy; subst hx hy; exact h1
  | succ j => exact h2.2 j x y (by simpa using hx) (by simpa using hy)
theorem rangeK_2 : List.range 2 = [0, 1] := rfl
theorem slB_ii : slB Tryd.prog 22 = true := by kernel_rfl
def moK : List T := [ints [2, 3], ints [0]]

attribute [local simp] KL_ap KD_ap awpL_nil awpL_cons awpD_nil awpD_cons awpOp awpOpD wrE gd aop aBuiltin aNil aMin ASt.eval AV.ofV dstOk ASt.app Eff.heap dels upd_b aLoad aStore aField aFieldV aIndexAddr aIndex aSlice aSliceO aLen aBin iB sB aUn aConv aAlloc aBox aBuild afill avCells AV.leaf setR aBuildSlice frz frzL isOwn vecOf tsOf aMake srcOf aAppend aMkMap aMapUpd aLookup oint cut putL AObj.cnt mkS envOf_nil envOf_cons heapOf_nil heapOf_cons argS Nat.blt_eq callS outV outVs outO heap2 addL delL List.getElem?_cons_zero ghA ghA1 wkPs wkP unm wkE wkH wkO keysNd mpOf_nil mpOf_cons okO inPs inP
set_option linter.unusedSimpArgs false

def dfG (p : Nat) (Le St : Int) (bs : List Bool) (nxt : List (List Int)) : AV := .agg [.t 2 (.int .i64 Le), .t 2 (.int .i64 St), .t p (bools bs), .t p (rows nxt)]
def rowB (Le : Int) (n : Nat) (r : List Int) : Bool := decide ((r.length : Int) = Le) && r.all fun v => decide (0 ≤ v) && decide (v < (n : Int))
def valE (Le St : Int) (bs : List Bool) (nxt : List (List Int)) : Int := if Le < 1 ∨ 6 < Le then 1 else if nxt.length ≠ bs.length ∨ St < 0 ∨ (bs.length : Int) ≤ St then 4 else if nxt.all (rowB Le bs.length) = true then 0 else 4
section
variable {Le St : Int} {bs : List Bool} {nxt : List (List Int)}
theorem valE_arg (h : Le < 1 ∨ 6 < Le) : valE Le St bs nxt = 1 := by unfold valE; rw [if_pos h]
theorem valE_shape (h : ¬ (Le < 1 ∨ 6 < Le)) (h2 : nxt.length ≠ bs.length ∨ St < 0 ∨ (bs.length : Int) ≤ St) : valE Le St bs nxt = 4 := by unfold valE; rw [if_neg h, if_pos h2]
theorem valE_row (h : ¬ (Le < 1 ∨ 6 < Le)) {q : Nat} (hq : q < nxt.length) (hb : rowB Le bs.length nxt[q] = false) : valE Le St bs nxt = 4 := by
 unfold valE
 rw [if_neg h]
 split
 ·rfl
 ·rw [if_neg]
  intro h2
  have := List.all_eq_true.1 h2 nxt[q] (by simp)
  rw [hb] at this
  cases this
theorem valE_ok (h : ¬ (Le < 1 ∨ 6 < Le)) (h2 : ¬ (nxt.length ≠ bs.length ∨ St < 0 ∨ (bs.length : Int) ≤ St)) (h3 : ∀ q (hq : q < nxt.length), rowB Le bs.length nxt[q] = true) : valE Le St bs nxt = 0 := by
 unfold valE
 rw [if_neg h, if_neg h2, if_pos]
 rw [List.all_eq_true]
 intro r hr
 obtain ⟨q, hq, rfl⟩ := List.getElem_of_mem hr
 exact h3 q hq
theorem rowB_len {n : Nat} {r : List Int} (h : (r.length : Int) ≠ Le) : rowB Le n r = false := by simp [rowB, h]
theorem rowB_val {n x : Nat} {r : List Int} (hx : x < r.length) (h : r[x] < 0 ∨ (n : Int) ≤ r[x]) : rowB Le n r = false := by
 cases e : rowB Le n r with
 | false => rfl
 | true =>
  simp only [rowB, Bool.and_eq_true, List.all_eq_true, decide_eq_true_eq] at e
  have := e.2 r[x] (by simp)
  omega
theorem rowB_ok {n : Nat} {r : List Int} (h : (r.length : Int) = Le) (h2 : ∀ x (hx : x < r.length), 0 ≤ r[x] ∧ r[x] < (n : Int)) : rowB Le n r = true := by
 simp only [rowB, Bool.and_eq_true, List.all_eq_true, decide_eq_true_eq]
 refine ⟨h, fun v hv => ?_⟩
 obtain ⟨x, hx, rfl⟩ := List.getElem_of_mem hv
 exact h2 x hx
theorem valE_df (h : valE Le St bs nxt = 0) : ∃ L s : Nat, Le = L ∧ St = s ∧ 1 ≤ L ∧ L ≤ 6 ∧ DfL L bs.length s bs nxt := by
 unfold valE at h
 by_cases h1 : Le < 1 ∨ 6 < Le
 ·rw [if_pos h1] at h; cases h
 ·rw [if_neg h1] at h
  by_cases h2 : nxt.length ≠ bs.length ∨ St < 0 ∨ (bs.length : Int) ≤ St
  ·rw [if_pos h2] at h; cases h
  ·rw [if_neg h2] at h
   by_cases h3 : nxt.all (rowB Le bs.length) = true
   ·refine ⟨Le.toNat, St.toNat, by omega, by omega, by omega, by omega, ⟨by omega, by omega, rfl, by omega, fun r hr => ?_⟩⟩
    have := List.all_eq_true.1 h3 r hr
    simp only [rowB, Bool.and_eq_true, List.all_eq_true, decide_eq_true_eq] at this
    exact ⟨by omega, fun v hv => this.2 v hv⟩
   ·rw [if_neg h3] at h; cases h
end
set_option maxRecDepth 100000 in
set_option maxHeartbeats 4000000 in
theorem few_fn (Le St : Int) (bs : List Bool) (nxt : List (List Int)) : ∃ res, (∃ b : Bool, (b = true → bs.length ≤ 40 ∧ nxt.length ≤ 40 ∧ ∀ r ∈ nxt, r.length ≤ 10) ∧ res = .t 2 (.bool b)) ∧ FnS Tryd.prog 25 [dfG 0 Le St bs nxt] [] res [] := by
 by_cases h1 : 40 < bs.length
 ·refine ⟨_, ⟨false, fun h => by simp at h, rfl⟩, ?_⟩
  have d1 : decide ((bs.length : Int) > 40) = true := by simp; omega
  refine fn_intro Tryd.func25 rfl (by simp [Tryd.f25]) ?_
  rw [show Tryd.f25.ntmps = 26 from rfl, show Tryd.f25.results = #[.tmp 2] from rfl]
  refine awp_seqR fun K hK => ?_
  simp (disch := omega) [ints, rows, scal, wr64, wr8, dfG, bools]
  (repeat' first | apply hK | apply And.intro) <;> try first | (show okH _ _ _ = true; kernel_rfl) | omega | rfl | (simp <;> omega)
  refine awp_seq ?_
  refine awp_seqR fun K hK => ?_
  simp (disch := omega) [ints, rows, scal, wr64, wr8, d1]
  (repeat' first | apply hK | apply And.intro) <;> try first | (show okH _ _ _ = true; kernel_rfl) | omega | rfl | (simp <;> omega)
  refine awp_cond (b := true) (p := 2) (by simp [scal, d1, h1] <;> omega) ?_
  refine awp_seqR fun K hK => ?_
  simp (disch := omega) [ints, rows, scal, wr64, wr8]
  (repeat' first | apply hK | apply And.intro) <;> try first | (show okH _ _ _ = true; kernel_rfl) | omega | rfl | (simp <;> omega)
  refine awp_ret ?_
  refine ⟨⟨.inr rfl, _, [], rfl, trivial, trivial, by simp [dfG], ?_⟩, by simp [dfG]⟩
  simp [dfG]
 have d1 : decide ((bs.length : Int) > 40) = false := by simp; omega
 by_cases h2 : 40 < nxt.length
 ·refine ⟨_, ⟨false, fun h => by simp at h, rfl⟩, ?_⟩
  have d2 : decide ((nxt.length : Int) > 40) = true := by simp; omega
  refine fn_intro Tryd.func25 rfl (by simp [Tryd.f25]) ?_
  rw [show Tryd.f25.ntmps = 26 from rfl, show Tryd.f25.results = #[.tmp 2] from rfl]
  refine awp_seqR fun K hK => ?_
  simp (disch := omega) [ints, rows, scal, wr64, wr8, dfG, bools]
  (repeat' first | apply hK | apply And.intro) <;> try first | (show okH _ _ _ = true; kernel_rfl) | omega | rfl | (simp <;> omega)
  refine awp_seq ?_
  refine awp_seqR fun K hK => ?_
  simp (disch := omega) [ints, rows, scal, wr64, wr8, d1, d2]
  (repeat' first | apply hK | apply And.intro) <;> try first | (show okH _ _ _ = true; kernel_rfl) | omega | rfl | (simp <;> omega)
  refine awp_cond (b := true) (p := 2) (by simp [scal, d2, h2] <;> omega) ?_
  refine awp_seqR fun K hK => ?_
  simp (disch := omega) [ints, rows, scal, wr64, wr8]
  (repeat' first | apply hK | apply And.intro) <;> try first | (show okH _ _ _ = true; kernel_rfl) | omega | rfl | (simp <;> omega)
  refine awp_ret ?_
  refine ⟨⟨.inr rfl, _, [], rfl, trivial, trivial, by simp [dfG], ?_⟩, by simp [dfG]⟩
  simp [dfG]
 have d2 : decide ((nxt.length : Int) > 40) = false := by simp; omega
 by_cases h3 : ∀ r ∈ nxt, r.length ≤ 10
 ·refine ⟨_, ⟨true, fun _ => ⟨by omega, by omega, h3⟩, rfl⟩, ?_⟩
  refine fn_intro Tryd.func25 rfl (by simp [Tryd.f25]) ?_
  rw [show Tryd.f25.ntmps = 26 from rfl, show Tryd.f25.results = #[.tmp 2] from rfl]
  refine awp_seqR fun K hK => ?_
  simp (disch := omega) [ints, rows, scal, wr64, wr8, dfG, bools]
  (repeat' first | apply hK | apply And.intro) <;> try first | (show okH _ _ _ = true; kernel_rfl) | omega | rfl | (simp <;> omega)
  refine awp_seq ?_
  refine awp_seqR fun K hK => ?_
  simp (disch := omega) [ints, rows, scal, wr64, wr8, d1, d2]
  (repeat' first | apply hK | apply And.intro) <;> try first | (show okH _ _ _ = true; kernel_rfl) | omega | rfl | (simp <;> omega)
  refine awp_cond (b := false) (p := 2) (by simp [scal, d1, d2] <;> omega) ?_
  refine awp_skip ?_
  show awp _ _ _ _
  refine awp_seq ?_
  refine awp_seqR fun K hK => ?_
  simp (disch := omega) [ints, rows, scal, wr64, wr8]
  (repeat' first | apply hK | apply And.intro) <;> try first | (show okH _ _ _ = true; kernel_rfl) | omega | rfl | (simp <;> omega)
  refine awp_block ?_
  refine awp_loop (fun y : Nat => mkS [(16, .t 0 (rows nxt)), (17, .t 2 (.int .i64 nxt.length)), (18, .t 2 (.int .i64 y))] [] 1 26 [.any]) (fun y => y ≤ nxt.length) (fun y => nxt.length - y) ?_ ?_
  ·refine ⟨0, by omega, ?_⟩
   refine wk_list [] rfl ?_ ?_ ?_ ?_
   all_goals try simp [ints, dfG, rows]
  intro y hy
  refine awp_seqR fun K hK => ?_
  simp (disch := omega) [ints, rows, scal, wr64, wr8]
  (repeat' first | apply hK | apply And.intro) <;> try first | (show okH _ _ _ = true; kernel_rfl) | omega | rfl | (simp <;> omega)
  refine awp_seq ?_
  by_cases hyl : y < nxt.length
  ·have hr := h3 nxt[y] (by simp)
   refine awp_cond (b := true) (p := 2) (by simp [scal, hyl] <;> omega) ?_
   refine awp_skip ?_
   show awp _ _ _ _
   refine awp_seq ?_
   refine awp_block ?_
   refine awp_seqR fun K hK => ?_
   simp (disch := omega) [ints, rows, scal, wr64, wr8, rows]
   (repeat' first | apply hK | apply And.intro) <;> try first | (show okH _ _ _ = true; kernel_rfl) | omega | rfl | (simp <;> omega)
   refine awp_seqR fun K hK => ?_
   simp (disch := omega) [ints, rows, scal, wr64, wr8, ints]
   (repeat' first | apply hK | apply And.intro) <;> try first | (show okH _ _ _ = true; kernel_rfl) | omega | rfl | (simp <;> omega)
   refine awp_cond (b := false) (p := 2) (by simp [scal] <;> omega) ?_
   refine awp_skip ?_
   show awp _ _ _ _
   refine awp_R fun K hK => ?_
   simp (disch := omega) [ints, rows, scal, wr64, wr8]
   (repeat' first | apply hK | apply And.intro) <;> try first | (show okH _ _ _ = true; kernel_rfl) | omega | rfl | (simp <;> omega)
   refine ⟨y + 1, by omega, by omega, ?_⟩
   refine wk_list [] rfl ?_ ?_ ?_ ?_
   all_goals try simp [ints, rows]
  ·refine awp_cond (b := false) (p := 2) (by simp [scal, hyl] <;> omega) ?_
   refine awp_exit ?_
   show awp _ _ _ _
   refine awp_seqR fun K hK => ?_
   simp (disch := omega) [ints, rows, scal, wr64, wr8]
   (repeat' first | apply hK | apply And.intro) <;> try first | (show okH _ _ _ = true; kernel_rfl) | omega | rfl | (simp <;> omega)
   refine awp_ret ?_
   refine ⟨⟨.inr rfl, _, [], rfl, trivial, trivial, by simp [dfG], ?_⟩, by simp [dfG]⟩
   simp [dfG]
 ·refine ⟨_, ⟨false, fun h => by simp at h, rfl⟩, ?_⟩
  refine fn_intro Tryd.func25 rfl (by simp [Tryd.f25]) ?_
  rw [show Tryd.f25.ntmps = 26 from rfl, show Tryd.f25.results = #[.tmp 2] from rfl]
  refine awp_seqR fun K hK => ?_
  simp (disch := omega) [ints, rows, scal, wr64, wr8, dfG, bools]
  (repeat' first | apply hK | apply And.intro) <;> try first | (show okH _ _ _ = true; kernel_rfl) | omega | rfl | (simp <;> omega)
  refine awp_seq ?_
  refine awp_seqR fun K hK => ?_
  simp (disch := omega) [ints, rows, scal, wr64, wr8, d1, d2]
  (repeat' first | apply hK | apply And.intro) <;> try first | (show okH _ _ _ = true; kernel_rfl) | omega | rfl | (simp <;> omega)
  refine awp_cond (b := false) (p := 2) (by simp [scal, d1, d2] <;> omega) ?_
  refine awp_skip ?_
  show awp _ _ _ _
  refine awp_seq ?_
  refine awp_seqR fun K hK => ?_
  simp (disch := omega) [ints, rows, scal, wr64, wr8]
  (repeat' first | apply hK | apply And.intro) <;> try first | (show okH _ _ _ = true; kernel_rfl) | omega | rfl | (simp <;> omega)
  refine awp_block ?_
  refine awp_loop (fun y : Nat => mkS [(16, .t 0 (rows nxt)), (17, .t 2 (.int .i64 nxt.length)), (18, .t 2 (.int .i64 y))] [] 1 26 [.any]) (fun y => y ≤ nxt.length ∧ ∀ k (hk : k < nxt.length), k < y → nxt[k].length ≤ 10) (fun y => nxt.length - y) ?_ ?_
  ·refine ⟨0, ⟨by omega, fun k hk h => by omega⟩, ?_⟩
   refine wk_list [] rfl ?_ ?_ ?_ ?_
   all_goals try simp [ints, dfG, rows]
  rintro y ⟨hy, hz⟩
  refine awp_seqR fun K hK => ?_
  simp (disch := omega) [ints, rows, scal, wr64, wr8]
  (repeat' first | apply hK | apply And.intro) <;> try first | (show okH _ _ _ = true; kernel_rfl) | omega | rfl | (simp <;> omega)
  refine awp_seq ?_
  by_cases hyl : y < nxt.length
  ·refine awp_cond (b := true) (p := 2) (by simp [scal, hyl] <;> omega) ?_
   refine awp_skip ?_
   show awp _ _ _ _
   refine awp_seq ?_
   refine awp_block ?_
   refine awp_seqR fun K hK => ?_
   simp (disch := omega) [ints, rows, scal, wr64, wr8, rows]
   (repeat' first | apply hK | apply And.intro) <;> try first | (show okH _ _ _ = true; kernel_rfl) | omega | rfl | (simp <;> omega)
   by_cases hr : nxt[y].length ≤ 10
   ·refine awp_seqR fun K hK => ?_
    simp (disch := omega) [ints, rows, scal, wr64, wr8, ints]
    (repeat' first | apply hK | apply And.intro) <;> try first | (show okH _ _ _ = true; kernel_rfl) | omega | rfl | (simp <;> omega)
    refine awp_cond (b := false) (p := 2) (by simp [scal] <;> omega) ?_
    refine awp_skip ?_
    show awp _ _ _ _
    refine awp_R fun K hK => ?_
    simp (disch := omega) [ints, rows, scal, wr64, wr8]
    (repeat' first | apply hK | apply And.intro) <;> try first | (show okH _ _ _ = true; kernel_rfl) | omega | rfl | (simp <;> omega)
    refine ⟨y + 1, ⟨by omega, fun k hk h => ?_⟩, by omega, ?_⟩
    ·by_cases hky : k = y
     ·subst hky; exact hr
     ·exact hz k hk (by omega)
    refine wk_list [] rfl ?_ ?_ ?_ ?_
    all_goals try simp [ints, rows]
   ·refine awp_seqR fun K hK => ?_
    simp (disch := omega) [ints, rows, scal, wr64, wr8, ints]
    (repeat' first | apply hK | apply And.intro) <;> try first | (show okH _ _ _ = true; kernel_rfl) | omega | rfl | (simp <;> omega)
    refine awp_cond (b := true) (p := 2) (by simp [scal, hr] <;> omega) ?_
    refine awp_seqR fun K hK => ?_
    simp (disch := omega) [ints, rows, scal, wr64, wr8]
    (repeat' first | apply hK | apply And.intro) <;> try first | (show okH _ _ _ = true; kernel_rfl) | omega | rfl | (simp <;> omega)
    refine awp_ret ?_
    refine ⟨⟨.inr rfl, _, [], rfl, trivial, trivial, by simp [dfG], ?_⟩, by simp [dfG]⟩
    simp [dfG]
  ·exact absurd (fun r hr => by
    obtain ⟨k, hk, rfl⟩ := List.getElem_of_mem hr
    exact hz k hk (by omega)) h3
set_option maxRecDepth 100000 in
set_option maxHeartbeats 8000000 in
theorem dvalidateG_fn {Le St e : Int} {bs : List Bool} {nxt : List (List Int)} (hbn : bs.length ≤ 40) (hnn : nxt.length ≤ 40) (hrn : ∀ r ∈ nxt, r.length ≤ 10) (he : valE Le St bs nxt = e) : FnA Tryd.prog 44 [dfG 0 Le St bs nxt] (.t 2 (.int .i64 e)) := by
 refine fn_intro Tryd.func44 rfl (by simp [Tryd.f44]) ?_
 rw [show Tryd.f44.ntmps = 64 from rfl, show Tryd.f44.results = #[.tmp 2] from rfl]
 refine awp_seqR fun K hK => ?_
 simp (disch := omega) [ints, rows, scal, wr64, wr8, dfG, bools]
 (repeat' first | apply hK | apply And.intro) <;> try first | (show okH _ _ _ = true; kernel_rfl) | omega | rfl | (simp <;> omega)
 refine awp_seq ?_
 by_cases hL : Le < 1 ∨ 6 < Le
 ·obtain rfl : e = 1 := by rw [← he]; exact valE_arg hL
  by_cases hL1 : Le < 1
  ·have d1 : decide (Le < 1) = true := by simp; omega
   refine awp_seqR fun K hK => ?_
   simp (disch := omega) [ints, rows, scal, wr64, wr8, d1, hL1]
   (repeat' first | apply hK | apply And.intro) <;> try first | (show okH _ _ _ = true; kernel_rfl) | omega | rfl | (simp <;> omega)
   refine awp_cond (b := true) (p := 2) (by simp [scal, hL1] <;> omega) ?_
   refine awp_seqR fun K hK => ?_
   simp (disch := omega) [ints, rows, scal, wr64, wr8]
   (repeat' first | apply hK | apply And.intro) <;> try first | (show okH _ _ _ = true; kernel_rfl) | omega | rfl | (simp <;> omega)
   refine awp_ret ?_
   refine ⟨⟨.inr rfl, _, [], rfl, trivial, trivial, by simp [dfG], ?_⟩, by simp [dfG]⟩
   simp [dfG]
  ·have d1 : decide (Le < 1) = false := by simp; omega
   have d2 : decide (Le > 6) = true := by simp; omega
   refine awp_seqR fun K hK => ?_
   simp (disch := omega) [ints, rows, scal, wr64, wr8, d1, d2, hL1]
   (repeat' first | apply hK | apply And.intro) <;> try first | (show okH _ _ _ = true; kernel_rfl) | omega | rfl | (simp <;> omega)
   refine awp_cond (b := true) (p := 2) (by simp [scal, d2, hL1] <;> omega) ?_
   refine awp_seqR fun K hK => ?_
   simp (disch := omega) [ints, rows, scal, wr64, wr8]
   (repeat' first | apply hK | apply And.intro) <;> try first | (show okH _ _ _ = true; kernel_rfl) | omega | rfl | (simp <;> omega)
   refine awp_ret ?_
   refine ⟨⟨.inr rfl, _, [], rfl, trivial, trivial, by simp [dfG], ?_⟩, by simp [dfG]⟩
   simp [dfG]
 have hL1 : ¬ Le < 1 := by omega
 have hL2 : ¬ 6 < Le := by omega
 refine awp_seqR fun K hK => ?_
 simp (disch := omega) [ints, rows, scal, wr64, wr8, hL1, hL2]
 (repeat' first | apply hK | apply And.intro) <;> try first | (show okH _ _ _ = true; kernel_rfl) | omega | rfl | (simp <;> omega)
 refine awp_cond (b := false) (p := 2) (by simp [scal] <;> omega) ?_
 refine awp_skip ?_
 show awp _ _ _ _
 obtain ⟨n, hn⟩ : ∃ n, n = bs.length := ⟨_, rfl⟩
 clear hn n
 refine awp_seqR fun K hK => ?_
 simp (disch := omega) [ints, rows, scal, wr64, wr8]
 (repeat' first | apply hK | apply And.intro) <;> try first | (show okH _ _ _ = true; kernel_rfl) | omega | rfl | (simp <;> omega)
 refine awp_seq ?_
 refine awp_seqR fun K hK => ?_
 simp (disch := omega) [ints, rows, scal, wr64, wr8]
 (repeat' first | apply hK | apply And.intro) <;> try first | (show okH _ _ _ = true; kernel_rfl) | omega | rfl | (simp <;> omega)
 refine awp_cond (b := false) (p := 2) (by simp [scal] <;> omega) ?_
 refine awp_skip ?_
 show awp _ _ _ _
 have hsh : ∀ h2 : nxt.length ≠ bs.length ∨ St < 0 ∨ (bs.length : Int) ≤ St, e = 4 := fun h2 => by rw [← he]; exact valE_shape hL h2
 refine awp_seq ?_
 by_cases c0 : bs.length = 0
 ·have d0 : ((bs.length : Int) == 0) = true := by simp [c0]
  obtain rfl := hsh (by omega)
  by_cases c1 : nxt.length = bs.length
  ·have d1 : ((nxt.length : Int) != (bs.length : Int)) = false := by rw [c1]; simp
   by_cases c2 : St < 0
   ·have d2 : decide (St < 0) = true := by simp [c2]
    refine awp_seqR fun K hK => ?_
    simp (disch := omega) [ints, rows, scal, wr64, wr8, d0, d1, d2]
    (repeat' first | apply hK | apply And.intro) <;> try first | (show okH _ _ _ = true; kernel_rfl) | omega | rfl | (simp <;> omega)
    refine awp_cond (b := true) (p := 2) (by simp [scal, c2] <;> omega) ?_
    refine awp_seqR fun K hK => ?_
    simp (disch := omega) [ints, rows, scal, wr64, wr8]
    (repeat' first | apply hK | apply And.intro) <;> try first | (show okH _ _ _ = true; kernel_rfl) | omega | rfl | (simp <;> omega)
    refine awp_ret ?_
    refine ⟨⟨.inr rfl, _, [], rfl, trivial, trivial, by simp [dfG], ?_⟩, by simp [dfG]⟩
    simp [dfG]
   ·have d2 : decide (St < 0) = false := decide_eq_false c2
    have d3 : decide (St ≥ (bs.length : Int)) = true := decide_eq_true (by omega)
    refine awp_seqR fun K hK => ?_
    simp (disch := omega) [ints, rows, scal, wr64, wr8, d0, d1, d2, d3]
    (repeat' first | apply hK | apply And.intro) <;> try first | (show okH _ _ _ = true; kernel_rfl) | omega | rfl | (simp <;> omega)
    refine awp_cond (b := true) (p := 2) (by simp [scal, d3, c0] <;> omega) ?_
    refine awp_seqR fun K hK => ?_
    simp (disch := omega) [ints, rows, scal, wr64, wr8]
    (repeat' first | apply hK | apply And.intro) <;> try first | (show okH _ _ _ = true; kernel_rfl) | omega | rfl | (simp <;> omega)
    refine awp_ret ?_
    refine ⟨⟨.inr rfl, _, [], rfl, trivial, trivial, by simp [dfG], ?_⟩, by simp [dfG]⟩
    simp [dfG]
  ·have d1 : ((nxt.length : Int) != (bs.length : Int)) = true := bne_iff_ne.2 (by omega)
   refine awp_seqR fun K hK => ?_
   simp (disch := omega) [ints, rows, scal, wr64, wr8, d0, d1]
   (repeat' first | apply hK | apply And.intro) <;> try first | (show okH _ _ _ = true; kernel_rfl) | omega | rfl | (simp <;> omega)
   refine awp_cond (b := true) (p := 2) (by simp [scal, c1] <;> omega) ?_
   refine awp_seqR fun K hK => ?_
   simp (disch := omega) [ints, rows, scal, wr64, wr8]
   (repeat' first | apply hK | apply And.intro) <;> try first | (show okH _ _ _ = true; kernel_rfl) | omega | rfl | (simp <;> omega)
   refine awp_ret ?_
   refine ⟨⟨.inr rfl, _, [], rfl, trivial, trivial, by simp [dfG], ?_⟩, by simp [dfG]⟩
   simp [dfG]
 have d0 : ((bs.length : Int) == 0) = false := beq_eq_false_iff_ne.2 (by omega)
 by_cases c1 : nxt.length = bs.length
 case neg =>
  have d1 : ((nxt.length : Int) != (bs.length : Int)) = true := bne_iff_ne.2 (by omega)
  obtain rfl := hsh (by omega)
  refine awp_seqR fun K hK => ?_
  simp (disch := omega) [ints, rows, scal, wr64, wr8, d0, d1]
  (repeat' first | apply hK | apply And.intro) <;> try first | (show okH _ _ _ = true; kernel_rfl) | omega | rfl | (simp <;> omega)
  refine awp_cond (b := true) (p := 2) (by simp [scal, c1] <;> omega) ?_
  refine awp_seqR fun K hK => ?_
  simp (disch := omega) [ints, rows, scal, wr64, wr8]
  (repeat' first | apply hK | apply And.intro) <;> try first | (show okH _ _ _ = true; kernel_rfl) | omega | rfl | (simp <;> omega)
  refine awp_ret ?_
  refine ⟨⟨.inr rfl, _, [], rfl, trivial, trivial, by simp [dfG], ?_⟩, by simp [dfG]⟩
  simp [dfG]
 have d1 : ((nxt.length : Int) != (bs.length : Int)) = false := by rw [c1]; simp
 by_cases c2 : St < 0
 ·have d2 : decide (St < 0) = true := by simp [c2]
  obtain rfl := hsh (by omega)
  refine awp_seqR fun K hK => ?_
  simp (disch := omega) [ints, rows, scal, wr64, wr8, d0, d1, d2]
  (repeat' first | apply hK | apply And.intro) <;> try first | (show okH _ _ _ = true; kernel_rfl) | omega | rfl | (simp <;> omega)
  refine awp_cond (b := true) (p := 2) (by simp [scal, c2] <;> omega) ?_
  refine awp_seqR fun K hK => ?_
  simp (disch := omega) [ints, rows, scal, wr64, wr8]
  (repeat' first | apply hK | apply And.intro) <;> try first | (show okH _ _ _ = true; kernel_rfl) | omega | rfl | (simp <;> omega)
  refine awp_ret ?_
  refine ⟨⟨.inr rfl, _, [], rfl, trivial, trivial, by simp [dfG], ?_⟩, by simp [dfG]⟩
  simp [dfG]
 have d2 : decide (St < 0) = false := decide_eq_false c2
 by_cases c3 : (bs.length : Int) ≤ St
 ·have d3 : decide (St ≥ (bs.length : Int)) = true := decide_eq_true (by omega)
  obtain rfl := hsh (by omega)
  refine awp_seqR fun K hK => ?_
  simp (disch := omega) [ints, rows, scal, wr64, wr8, d0, d1, d2, d3]
  (repeat' first | apply hK | apply And.intro) <;> try first | (show okH _ _ _ = true; kernel_rfl) | omega | rfl | (simp <;> omega)
  refine awp_cond (b := true) (p := 2) (by simp [scal, d3, c3] <;> omega) ?_
  refine awp_seqR fun K hK => ?_
  simp (disch := omega) [ints, rows, scal, wr64, wr8]
  (repeat' first | apply hK | apply And.intro) <;> try first | (show okH _ _ _ = true; kernel_rfl) | omega | rfl | (simp <;> omega)
  refine awp_ret ?_
  refine ⟨⟨.inr rfl, _, [], rfl, trivial, trivial, by simp [dfG], ?_⟩, by simp [dfG]⟩
  simp [dfG]
 have d3 : decide (St ≥ (bs.length : Int)) = false := decide_eq_false (by omega)
 refine awp_seqR fun K hK => ?_
 simp (disch := omega) [ints, rows, scal, wr64, wr8, d0, d1, d2, d3]
 (repeat' first | apply hK | apply And.intro) <;> try first | (show okH _ _ _ = true; kernel_rfl) | omega | rfl | (simp <;> omega)
 refine awp_cond (b := false) (p := 2) (by simp [scal, d3, c3] <;> omega) ?_
 refine awp_skip ?_
 show awp _ _ _ _
 refine awp_seq ?_
 refine awp_seqR fun K hK => ?_
 simp (disch := omega) [ints, rows, scal, wr64, wr8]
 (repeat' first | apply hK | apply And.intro) <;> try first | (show okH _ _ _ = true; kernel_rfl) | omega | rfl | (simp <;> omega)
 refine awp_block ?_
 refine awp_loop (fun y : Nat => mkS [(1, .ptr 0 0 4), (3, .t 2 (.int .i64 bs.length)), (38, .t 0 (rows nxt)), (39, .t 2 (.int .i64 nxt.length)), (40, .t 2 (.int .i64 y))] [(0, .box 32 [.t 2 (.int .i64 Le), .t 2 (.int .i64 St), .t 0 (bools bs), .t 0 (rows nxt)])] 1 64 [.any]) (fun y => y ≤ nxt.length ∧ ∀ k (hk : k < nxt.length), k < y → rowB Le bs.length nxt[k] = true) (fun y => nxt.length - y) ?_ ?_
 ·refine ⟨0, ⟨by omega, fun k hk h => by omega⟩, ?_⟩
  refine wk_list [(0, some 0)] rfl ?_ ?_ ?_ ?_
  all_goals try simp [ints, rows, bools, dfG]
 rintro q ⟨hq, hz⟩
 refine awp_seqR fun K hK => ?_
 simp (disch := omega) [ints, rows, scal, wr64, wr8]
 (repeat' first | apply hK | apply And.intro) <;> try first | (show okH _ _ _ = true; kernel_rfl) | omega | rfl | (simp <;> omega)
 refine awp_seq ?_
 by_cases hqn : q < nxt.length
 ·have hr10 := hrn nxt[q] (by simp)
  refine awp_cond (b := true) (p := 2) (by simp [scal, hqn] <;> omega) ?_
  refine awp_skip ?_
  show awp _ _ _ _
  refine awp_seq ?_
  refine awp_block ?_
  refine awp_seqR fun K hK => ?_
  simp (disch := omega) [ints, rows, scal, wr64, wr8, rows]
  (repeat' first | apply hK | apply And.intro) <;> try first | (show okH _ _ _ = true; kernel_rfl) | omega | rfl | (simp <;> omega)
  refine awp_seq ?_
  by_cases hlen : (nxt[q].length : Int) = Le
  case neg =>
   have g1 : ((nxt[q].length : Int) != Le) = true := bne_iff_ne.2 hlen
   obtain rfl : e = 4 := by rw [← he]; exact valE_row hL hqn (rowB_len hlen)
   refine awp_seqR fun K hK => ?_
   simp (disch := omega) [ints, rows, scal, wr64, wr8, ints, g1]
   (repeat' first | apply hK | apply And.intro) <;> try first | (show okH _ _ _ = true; kernel_rfl) | omega | rfl | (simp <;> omega)
   refine awp_cond (b := true) (p := 2) (by simp [scal, hlen, g1] <;> omega) ?_
   refine awp_seqR fun K hK => ?_
   simp (disch := omega) [ints, rows, scal, wr64, wr8]
   (repeat' first | apply hK | apply And.intro) <;> try first | (show okH _ _ _ = true; kernel_rfl) | omega | rfl | (simp <;> omega)
   refine awp_ret ?_
   refine ⟨⟨.inr rfl, _, [], rfl, trivial, trivial, by simp [dfG], ?_⟩, by simp [dfG]⟩
   simp [dfG]
  have g1 : ((nxt[q].length : Int) != Le) = false := by rw [hlen]; simp
  refine awp_seqR fun K hK => ?_
  simp (disch := omega) [ints, rows, scal, wr64, wr8, ints, g1]
  (repeat' first | apply hK | apply And.intro) <;> try first | (show okH _ _ _ = true; kernel_rfl) | omega | rfl | (simp <;> omega)
  refine awp_cond (b := false) (p := 2) (by simp [scal, hlen, g1] <;> omega) ?_
  refine awp_skip ?_
  show awp _ _ _ _
  refine awp_seqR fun K hK => ?_
  simp (disch := omega) [ints, rows, scal, wr64, wr8, ints]
  (repeat' first | apply hK | apply And.intro) <;> try first | (show okH _ _ _ = true; kernel_rfl) | omega | rfl | (simp <;> omega)
  refine awp_block ?_
  refine awp_loop (fun y : Nat => mkS [(1, .ptr 0 0 4), (3, .t 2 (.int .i64 bs.length)), (38, .t 0 (rows nxt)), (39, .t 2 (.int .i64 nxt.length)), (40, .t 2 (.int .i64 q)), (49, .t 0 (ints nxt[q])), (50, .t 2 (.int .i64 nxt[q].length)), (51, .t 2 (.int .i64 y))] [(0, .box 32 [.t 2 (.int .i64 Le), .t 2 (.int .i64 St), .t 0 (bools bs), .t 0 (rows nxt)])] 1 64 [.any]) (fun y => y ≤ nxt[q].length ∧ ∀ k (hk : k < nxt[q].length), k < y → 0 ≤ nxt[q][k] ∧ nxt[q][k] < (bs.length : Int)) (fun y => nxt[q].length - y) ?_ ?_
  ·refine ⟨0, ⟨by omega, fun k hk h => by omega⟩, ?_⟩
   refine wk_list [(0, some 0)] rfl ?_ ?_ ?_ ?_
   all_goals try simp [ints, rows, bools, ints]
  rintro x ⟨hx, hy⟩
  refine awp_seqR fun K hK => ?_
  simp (disch := omega) [ints, rows, scal, wr64, wr8]
  (repeat' first | apply hK | apply And.intro) <;> try first | (show okH _ _ _ = true; kernel_rfl) | omega | rfl | (simp <;> omega)
  refine awp_seq ?_
  by_cases hxl : x < nxt[q].length
  ·refine awp_cond (b := true) (p := 2) (by simp [scal, hxl] <;> omega) ?_
   refine awp_skip ?_
   show awp _ _ _ _
   refine awp_seq ?_
   refine awp_block ?_
   refine awp_seqR fun K hK => ?_
   simp (disch := omega) [ints, rows, scal, wr64, wr8, ints]
   (repeat' first | apply hK | apply And.intro) <;> try first | (show okH _ _ _ = true; kernel_rfl) | omega | rfl | (simp <;> omega)
   by_cases f1 : nxt[q][x] < 0
   ·obtain rfl : e = 4 := by rw [← he]; exact valE_row hL hqn (rowB_val hxl (.inl f1))
    have g2 : decide (nxt[q][x] < 0) = true := by simp [f1]
    refine awp_seqR fun K hK => ?_
    simp (disch := omega) [ints, rows, scal, wr64, wr8, g2, f1]
    (repeat' first | apply hK | apply And.intro) <;> try first | (show okH _ _ _ = true; kernel_rfl) | omega | rfl | (simp <;> omega)
    refine awp_cond (b := true) (p := 2) (by simp [scal, f1] <;> omega) ?_
    refine awp_seqR fun K hK => ?_
    simp (disch := omega) [ints, rows, scal, wr64, wr8]
    (repeat' first | apply hK | apply And.intro) <;> try first | (show okH _ _ _ = true; kernel_rfl) | omega | rfl | (simp <;> omega)
    refine awp_ret ?_
    refine ⟨⟨.inr rfl, _, [], rfl, trivial, trivial, by simp [dfG], ?_⟩, by simp [dfG]⟩
    simp [dfG]
   have g2 : decide (nxt[q][x] < 0) = false := decide_eq_false f1
   by_cases f2 : (bs.length : Int) ≤ nxt[q][x]
   ·obtain rfl : e = 4 := by rw [← he]; exact valE_row hL hqn (rowB_val hxl (.inr f2))
    have g3 : decide (nxt[q][x] ≥ (bs.length : Int)) = true := by simp; omega
    refine awp_seqR fun K hK => ?_
    simp (disch := omega) [ints, rows, scal, wr64, wr8, g2, g3, f1, f2]
    (repeat' first | apply hK | apply And.intro) <;> try first | (show okH _ _ _ = true; kernel_rfl) | omega | rfl | (simp <;> omega)
    refine awp_cond (b := true) (p := 2) (by simp [scal, f2] <;> omega) ?_
    refine awp_seqR fun K hK => ?_
    simp (disch := omega) [ints, rows, scal, wr64, wr8]
    (repeat' first | apply hK | apply And.intro) <;> try first | (show okH _ _ _ = true; kernel_rfl) | omega | rfl | (simp <;> omega)
    refine awp_ret ?_
    refine ⟨⟨.inr rfl, _, [], rfl, trivial, trivial, by simp [dfG], ?_⟩, by simp [dfG]⟩
    simp [dfG]
   have g3 : decide (nxt[q][x] ≥ (bs.length : Int)) = false := by simp; omega
   refine awp_seqR fun K hK => ?_
   simp (disch := omega) [ints, rows, scal, wr64, wr8, g2, g3, f1, f2]
   (repeat' first | apply hK | apply And.intro) <;> try first | (show okH _ _ _ = true; kernel_rfl) | omega | rfl | (simp <;> omega)
   refine awp_cond (b := false) (p := 2) (by simp [scal, f2] <;> omega) ?_
   refine awp_skip ?_
   show awp _ _ _ _
   refine awp_R fun K hK => ?_
   simp (disch := omega) [ints, rows, scal, wr64, wr8]
   (repeat' first | apply hK | apply And.intro) <;> try first | (show okH _ _ _ = true; kernel_rfl) | omega | rfl | (simp <;> omega)
   refine ⟨x + 1, ⟨by omega, fun k hk h => ?_⟩, by omega, ?_⟩
   ·by_cases hkx : k = x
    ·subst hkx; omega
    ·exact hy k hk (by omega)
   refine wk_list [(0, some 0)] rfl ?_ ?_ ?_ ?_
   all_goals try simp [ints, rows, bools, ints]
  ·refine awp_cond (b := false) (p := 2) (by simp [scal, hxl] <;> omega) ?_
   refine awp_exit ?_
   show awp _ _ _ _
   refine awp_R fun K hK => ?_
   simp (disch := omega) [ints, rows, scal, wr64, wr8]
   (repeat' first | apply hK | apply And.intro) <;> try first | (show okH _ _ _ = true; kernel_rfl) | omega | rfl | (simp <;> omega)
   refine ⟨q + 1, ⟨by omega, fun k hk h => ?_⟩, by omega, ?_⟩
   ·by_cases hkq : k = q
    ·subst hkq; exact rowB_ok hlen (fun y hy2 => hy y hy2 (by omega))
    ·exact hz k hk (by omega)
   refine wk_list [(0, some 0)] rfl ?_ ?_ ?_ ?_
   all_goals try simp [ints, rows, bools]
 ·obtain rfl : e = 0 := by rw [← he]; exact valE_ok hL (by omega) (fun k hk => hz k hk (by omega))
  refine awp_cond (b := false) (p := 2) (by simp [scal, hqn] <;> omega) ?_
  refine awp_exit ?_
  show awp _ _ _ _
  refine awp_seqR fun K hK => ?_
  simp (disch := omega) [ints, rows, scal, wr64, wr8]
  (repeat' first | apply hK | apply And.intro) <;> try first | (show okH _ _ _ = true; kernel_rfl) | omega | rfl | (simp <;> omega)
  refine awp_ret ?_
  refine ⟨⟨.inr rfl, _, [], rfl, trivial, trivial, by simp [dfG], ?_⟩, by simp [dfG]⟩
  simp [dfG]
set_option maxRecDepth 100000 in
set_option maxHeartbeats 8000000 in
theorem validate07G_fn {Le St e : Int} {bs : List Bool} {nxt : List (List Int)} (hbn : bs.length ≤ 40) (hnn : nxt.length ≤ 40) (hrn : ∀ r ∈ nxt, r.length ≤ 10) (he : valE Le St bs nxt = e) : FnA Tryd.prog 26 [dfG 0 Le St bs nxt] (.t 2 (.int .i64 e)) := by
 refine fn_intro Tryd.func26 rfl (by simp [Tryd.f26]) ?_
 rw [show Tryd.f26.ntmps = 64 from rfl, show Tryd.f26.results = #[.tmp 2] from rfl]
 refine awp_seqR fun K hK => ?_
 simp (disch := omega) [ints, rows, scal, wr64, wr8, dfG, bools]
 (repeat' first | apply hK | apply And.intro) <;> try first | (show okH _ _ _ = true; kernel_rfl) | omega | rfl | (simp <;> omega)
 refine awp_seqR fun K hK => ?_
 simp (disch := omega) [ints, rows, scal, wr64, wr8]
 (repeat' first | apply hK | apply And.intro) <;> try first | (show okH _ _ _ = true; kernel_rfl) | omega | rfl | (simp <;> omega)
 refine awp_seq ?_
 by_cases hL : Le < 1 ∨ 6 < Le
 ·obtain rfl : e = 1 := by rw [← he]; exact valE_arg hL
  have d1 : decide (1 ≤ Le ∧ Le ≤ 6) = false := by simp; omega
  refine awp_seqR fun K hK => ?_
  simp (disch := omega) [ints, rows, scal, wr64, wr8]
  (repeat' apply And.intro)
  all_goals (try omega)
  refine call_rule (caps := []) (mayLetters_fn Le) [] [] 2 rfl rfl rfl rfl (by kernel_rfl) (by simp) ?_ trivial trivial rfl trivial trivial (by simp) ?_
  ·simp [scal, rows, ints]
  simp (disch := omega) [ints, rows, scal, wr64, wr8, d1]
  (repeat' first | apply hK | apply And.intro) <;> try first | (show okH _ _ _ = true; kernel_rfl) | omega | rfl | (simp <;> omega)
  refine awp_cond (b := true) (p := 2) (by simp [scal] <;> omega) ?_
  refine awp_seqR fun K hK => ?_
  simp (disch := omega) [ints, rows, scal, wr64, wr8]
  (repeat' first | apply hK | apply And.intro) <;> try first | (show okH _ _ _ = true; kernel_rfl) | omega | rfl | (simp <;> omega)
  refine awp_ret ?_
  refine ⟨⟨.inr rfl, _, [], rfl, trivial, trivial, by simp [dfG], ?_⟩, by simp [dfG]⟩
  simp [dfG]
 have d1 : decide (1 ≤ Le ∧ Le ≤ 6) = true := by simp; omega
 refine awp_seqR fun K hK => ?_
 simp (disch := omega) [ints, rows, scal, wr64, wr8]
 (repeat' apply And.intro)
 all_goals (try omega)
 refine call_rule (caps := []) (mayLetters_fn Le) [] [] 2 rfl rfl rfl rfl (by kernel_rfl) (by simp) ?_ trivial trivial rfl trivial trivial (by simp) ?_
 ·simp [scal, rows, ints]
 simp (disch := omega) [ints, rows, scal, wr64, wr8, d1]
 (repeat' first | apply hK | apply And.intro) <;> try first | (show okH _ _ _ = true; kernel_rfl) | omega | rfl | (simp <;> omega)
 refine awp_cond (b := false) (p := 2) (by simp [scal] <;> omega) ?_
 refine awp_skip ?_
 show awp _ _ _ _
 obtain ⟨n, hn⟩ : ∃ n, n = bs.length := ⟨_, rfl⟩
 clear hn n
 refine awp_seq ?_
 refine awp_seqR fun K hK => ?_
 simp (disch := omega) [ints, rows, scal, wr64, wr8]
 (repeat' first | apply hK | apply And.intro) <;> try first | (show okH _ _ _ = true; kernel_rfl) | omega | rfl | (simp <;> omega)
 refine awp_cond (b := false) (p := 2) (by simp [scal] <;> omega) ?_
 refine awp_skip ?_
 show awp _ _ _ _
 have hsh : ∀ h2 : nxt.length ≠ bs.length ∨ St < 0 ∨ (bs.length : Int) ≤ St, e = 4 := fun h2 => by rw [← he]; exact valE_shape hL h2
 refine awp_seq ?_
 by_cases c0 : bs.length = 0
 ·have d0 : ((bs.length : Int) == 0) = true := by simp [c0]
  obtain rfl := hsh (by omega)
  by_cases c1 : nxt.length = bs.length
  ·have d1 : ((nxt.length : Int) != (bs.length : Int)) = false := by rw [c1]; simp
   by_cases c2 : St < 0
   ·have d2 : decide (St < 0) = true := by simp [c2]
    refine awp_seqR fun K hK => ?_
    simp (disch := omega) [ints, rows, scal, wr64, wr8, d0, d1, d2]
    (repeat' first | apply hK | apply And.intro) <;> try first | (show okH _ _ _ = true; kernel_rfl) | omega | rfl | (simp <;> omega)
    refine awp_cond (b := true) (p := 2) (by simp [scal, c2] <;> omega) ?_
    refine awp_seqR fun K hK => ?_
    simp (disch := omega) [ints, rows, scal, wr64, wr8]
    (repeat' first | apply hK | apply And.intro) <;> try first | (show okH _ _ _ = true; kernel_rfl) | omega | rfl | (simp <;> omega)
    refine awp_ret ?_
    refine ⟨⟨.inr rfl, _, [], rfl, trivial, trivial, by simp [dfG], ?_⟩, by simp [dfG]⟩
    simp [dfG]
   ·have d2 : decide (St < 0) = false := decide_eq_false c2
    have d3 : decide (St ≥ (bs.length : Int)) = true := decide_eq_true (by omega)
    refine awp_seqR fun K hK => ?_
    simp (disch := omega) [ints, rows, scal, wr64, wr8, d0, d1, d2, d3]
    (repeat' first | apply hK | apply And.intro) <;> try first | (show okH _ _ _ = true; kernel_rfl) | omega | rfl | (simp <;> omega)
    refine awp_cond (b := true) (p := 2) (by simp [scal, d3, c0] <;> omega) ?_
    refine awp_seqR fun K hK => ?_
    simp (disch := omega) [ints, rows, scal, wr64, wr8]
    (repeat' first | apply hK | apply And.intro) <;> try first | (show okH _ _ _ = true; kernel_rfl) | omega | rfl | (simp <;> omega)
    refine awp_ret ?_
    refine ⟨⟨.inr rfl, _, [], rfl, trivial, trivial, by simp [dfG], ?_⟩, by simp [dfG]⟩
    simp [dfG]
  ·have d1 : ((nxt.length : Int) != (bs.length : Int)) = true := bne_iff_ne.2 (by omega)
   refine awp_seqR fun K hK => ?_
   simp (disch := omega) [ints, rows, scal, wr64, wr8, d0, d1]
   (repeat' first | apply hK | apply And.intro) <;> try first | (show okH _ _ _ = true; kernel_rfl) | omega | rfl | (simp <;> omega)
   refine awp_cond (b := true) (p := 2) (by simp [scal, c1] <;> omega) ?_
   refine awp_seqR fun K hK => ?_
   simp (disch := omega) [ints, rows, scal, wr64, wr8]
   (repeat' first | apply hK | apply And.intro) <;> try first | (show okH _ _ _ = true; kernel_rfl) | omega | rfl | (simp <;> omega)
   refine awp_ret ?_
   refine ⟨⟨.inr rfl, _, [], rfl, trivial, trivial, by simp [dfG], ?_⟩, by simp [dfG]⟩
   simp [dfG]
 have d0 : ((bs.length : Int) == 0) = false := beq_eq_false_iff_ne.2 (by omega)
 by_cases c1 : nxt.length = bs.length
 case neg =>
  have d1 : ((nxt.length : Int) != (bs.length : Int)) = true := bne_iff_ne.2 (by omega)
  obtain rfl := hsh (by omega)
  refine awp_seqR fun K hK => ?_
  simp (disch := omega) [ints, rows, scal, wr64, wr8, d0, d1]
  (repeat' first | apply hK | apply And.intro) <;> try first | (show okH _ _ _ = true; kernel_rfl) | omega | rfl | (simp <;> omega)
  refine awp_cond (b := true) (p := 2) (by simp [scal, c1] <;> omega) ?_
  refine awp_seqR fun K hK => ?_
  simp (disch := omega) [ints, rows, scal, wr64, wr8]
  (repeat' first | apply hK | apply And.intro) <;> try first | (show okH _ _ _ = true; kernel_rfl) | omega | rfl | (simp <;> omega)
  refine awp_ret ?_
  refine ⟨⟨.inr rfl, _, [], rfl, trivial, trivial, by simp [dfG], ?_⟩, by simp [dfG]⟩
  simp [dfG]
 have d1 : ((nxt.length : Int) != (bs.length : Int)) = false := by rw [c1]; simp
 by_cases c2 : St < 0
 ·have d2 : decide (St < 0) = true := by simp [c2]
  obtain rfl := hsh (by omega)
  refine awp_seqR fun K hK => ?_
  simp (disch := omega) [ints, rows, scal, wr64, wr8, d0, d1, d2]
  (repeat' first | apply hK | apply And.intro) <;> try first | (show okH _ _ _ = true; kernel_rfl) | omega | rfl | (simp <;> omega)
  refine awp_cond (b := true) (p := 2) (by simp [scal, c2] <;> omega) ?_
  refine awp_seqR fun K hK => ?_
  simp (disch := omega) [ints, rows, scal, wr64, wr8]
  (repeat' first | apply hK | apply And.intro) <;> try first | (show okH _ _ _ = true; kernel_rfl) | omega | rfl | (simp <;> omega)
  refine awp_ret ?_
  refine ⟨⟨.inr rfl, _, [], rfl, trivial, trivial, by simp [dfG], ?_⟩, by simp [dfG]⟩
  simp [dfG]
 have d2 : decide (St < 0) = false := decide_eq_false c2
 by_cases c3 : (bs.length : Int) ≤ St
 ·have d3 : decide (St ≥ (bs.length : Int)) = true := decide_eq_true (by omega)
  obtain rfl := hsh (by omega)
  refine awp_seqR fun K hK => ?_
  simp (disch := omega) [ints, rows, scal, wr64, wr8, d0, d1, d2, d3]
  (repeat' first | apply hK | apply And.intro) <;> try first | (show okH _ _ _ = true; kernel_rfl) | omega | rfl | (simp <;> omega)
  refine awp_cond (b := true) (p := 2) (by simp [scal, d3, c3] <;> omega) ?_
  refine awp_seqR fun K hK => ?_
  simp (disch := omega) [ints, rows, scal, wr64, wr8]
  (repeat' first | apply hK | apply And.intro) <;> try first | (show okH _ _ _ = true; kernel_rfl) | omega | rfl | (simp <;> omega)
  refine awp_ret ?_
  refine ⟨⟨.inr rfl, _, [], rfl, trivial, trivial, by simp [dfG], ?_⟩, by simp [dfG]⟩
  simp [dfG]
 have d3 : decide (St ≥ (bs.length : Int)) = false := decide_eq_false (by omega)
 refine awp_seqR fun K hK => ?_
 simp (disch := omega) [ints, rows, scal, wr64, wr8, d0, d1, d2, d3]
 (repeat' first | apply hK | apply And.intro) <;> try first | (show okH _ _ _ = true; kernel_rfl) | omega | rfl | (simp <;> omega)
 refine awp_cond (b := false) (p := 2) (by simp [scal, d3, c3] <;> omega) ?_
 refine awp_skip ?_
 show awp _ _ _ _
 refine awp_seq ?_
 refine awp_seqR fun K hK => ?_
 simp (disch := omega) [ints, rows, scal, wr64, wr8]
 (repeat' first | apply hK | apply And.intro) <;> try first | (show okH _ _ _ = true; kernel_rfl) | omega | rfl | (simp <;> omega)
 refine awp_block ?_
 refine awp_loop (fun y : Nat => mkS [(1, .ptr 0 0 4), (3, .t 2 (.int .i64 bs.length)), (38, .t 0 (rows nxt)), (39, .t 2 (.int .i64 nxt.length)), (40, .t 2 (.int .i64 y))] [(0, .box 32 [.t 2 (.int .i64 Le), .t 2 (.int .i64 St), .t 0 (bools bs), .t 0 (rows nxt)])] 1 64 [.any]) (fun y => y ≤ nxt.length ∧ ∀ k (hk : k < nxt.length), k < y → rowB Le bs.length nxt[k] = true) (fun y => nxt.length - y) ?_ ?_
 ·refine ⟨0, ⟨by omega, fun k hk h => by omega⟩, ?_⟩
  refine wk_list [(0, some 0)] rfl ?_ ?_ ?_ ?_
  all_goals try simp [ints, rows, bools, dfG]
 rintro q ⟨hq, hz⟩
 refine awp_seqR fun K hK => ?_
 simp (disch := omega) [ints, rows, scal, wr64, wr8]
 (repeat' first | apply hK | apply And.intro) <;> try first | (show okH _ _ _ = true; kernel_rfl) | omega | rfl | (simp <;> omega)
 refine awp_seq ?_
 by_cases hqn : q < nxt.length
 ·have hr10 := hrn nxt[q] (by simp)
  refine awp_cond (b := true) (p := 2) (by simp [scal, hqn] <;> omega) ?_
  refine awp_skip ?_
  show awp _ _ _ _
  refine awp_seq ?_
  refine awp_block ?_
  refine awp_seqR fun K hK => ?_
  simp (disch := omega) [ints, rows, scal, wr64, wr8, rows]
  (repeat' first | apply hK | apply And.intro) <;> try first | (show okH _ _ _ = true; kernel_rfl) | omega | rfl | (simp <;> omega)
  refine awp_seq ?_
  by_cases hlen : (nxt[q].length : Int) = Le
  case neg =>
   have g1 : ((nxt[q].length : Int) != Le) = true := bne_iff_ne.2 hlen
   obtain rfl : e = 4 := by rw [← he]; exact valE_row hL hqn (rowB_len hlen)
   refine awp_seqR fun K hK => ?_
   simp (disch := omega) [ints, rows, scal, wr64, wr8, ints, g1]
   (repeat' first | apply hK | apply And.intro) <;> try first | (show okH _ _ _ = true; kernel_rfl) | omega | rfl | (simp <;> omega)
   refine awp_cond (b := true) (p := 2) (by simp [scal, hlen, g1] <;> omega) ?_
   refine awp_seqR fun K hK => ?_
   simp (disch := omega) [ints, rows, scal, wr64, wr8]
   (repeat' first | apply hK | apply And.intro) <;> try first | (show okH _ _ _ = true; kernel_rfl) | omega | rfl | (simp <;> omega)
   refine awp_ret ?_
   refine ⟨⟨.inr rfl, _, [], rfl, trivial, trivial, by simp [dfG], ?_⟩, by simp [dfG]⟩
   simp [dfG]
  have g1 : ((nxt[q].length : Int) != Le) = false := by rw [hlen]; simp
  refine awp_seqR fun K hK => ?_
  simp (disch := omega) [ints, rows, scal, wr64, wr8, ints, g1]
  (repeat' first | apply hK | apply And.intro) <;> try first | (show okH _ _ _ = true; kernel_rfl) | omega | rfl | (simp <;> omega)
  refine awp_cond (b := false) (p := 2) (by simp [scal, hlen, g1] <;> omega) ?_
  refine awp_skip ?_
  show awp _ _ _ _
  refine awp_seqR fun K hK => ?_
  simp (disch := omega) [ints, rows, scal, wr64, wr8, ints]
  (repeat' first | apply hK | apply And.intro) <;> try first | (show okH _ _ _ = true; kernel_rfl) | omega | rfl | (simp <;> omega)
  refine awp_block ?_
  refine awp_loop (fun y : Nat => mkS [(1, .ptr 0 0 4), (3, .t 2 (.int .i64 bs.length)), (38, .t 0 (rows nxt)), (39, .t 2 (.int .i64 nxt.length)), (40, .t 2 (.int .i64 q)), (49, .t 0 (ints nxt[q])), (50, .t 2 (.int .i64 nxt[q].length)), (51, .t 2 (.int .i64 y))] [(0, .box 32 [.t 2 (.int .i64 Le), .t 2 (.int .i64 St), .t 0 (bools bs), .t 0 (rows nxt)])] 1 64 [.any]) (fun y => y ≤ nxt[q].length ∧ ∀ k (hk : k < nxt[q].length), k < y → 0 ≤ nxt[q][k] ∧ nxt[q][k] < (bs.length : Int)) (fun y => nxt[q].length - y) ?_ ?_
  ·refine ⟨0, ⟨by omega, fun k hk h => by omega⟩, ?_⟩
   refine wk_list [(0, some 0)] rfl ?_ ?_ ?_ ?_
   all_goals try simp [ints, rows, bools, ints]
  rintro x ⟨hx, hy⟩
  refine awp_seqR fun K hK => ?_
  simp (disch := omega) [ints, rows, scal, wr64, wr8]
  (repeat' first | apply hK | apply And.intro) <;> try first | (show okH _ _ _ = true; kernel_rfl) | omega | rfl | (simp <;> omega)
  refine awp_seq ?_
  by_cases hxl : x < nxt[q].length
  ·refine awp_cond (b := true) (p := 2) (by simp [scal, hxl] <;> omega) ?_
   refine awp_skip ?_
   show awp _ _ _ _
   refine awp_seq ?_
   refine awp_block ?_
   refine awp_seqR fun K hK => ?_
   simp (disch := omega) [ints, rows, scal, wr64, wr8, ints]
   (repeat' first | apply hK | apply And.intro) <;> try first | (show okH _ _ _ = true; kernel_rfl) | omega | rfl | (simp <;> omega)
   by_cases f1 : nxt[q][x] < 0
   ·obtain rfl : e = 4 := by rw [← he]; exact valE_row hL hqn (rowB_val hxl (.inl f1))
    have g2 : decide (nxt[q][x] < 0) = true := by simp [f1]
    refine awp_seqR fun K hK => ?_
    simp (disch := omega) [ints, rows, scal, wr64, wr8, g2, f1]
    (repeat' first | apply hK | apply And.intro) <;> try first | (show okH _ _ _ = true; kernel_rfl) | omega | rfl | (simp <;> omega)
    refine awp_cond (b := true) (p := 2) (by simp [scal, f1] <;> omega) ?_
    refine awp_seqR fun K hK => ?_
    simp (disch := omega) [ints, rows, scal, wr64, wr8]
    (repeat' first | apply hK | apply And.intro) <;> try first | (show okH _ _ _ = true; kernel_rfl) | omega | rfl | (simp <;> omega)
    refine awp_ret ?_
    refine ⟨⟨.inr rfl, _, [], rfl, trivial, trivial, by simp [dfG], ?_⟩, by simp [dfG]⟩
    simp [dfG]
   have g2 : decide (nxt[q][x] < 0) = false := decide_eq_false f1
   by_cases f2 : (bs.length : Int) ≤ nxt[q][x]
   ·obtain rfl : e = 4 := by rw [← he]; exact valE_row hL hqn (rowB_val hxl (.inr f2))
    have g3 : decide (nxt[q][x] ≥ (bs.length : Int)) = true := by simp; omega
    refine awp_seqR fun K hK => ?_
    simp (disch := omega) [ints, rows, scal, wr64, wr8, g2, g3, f1, f2]
    (repeat' first | apply hK | apply And.intro) <;> try first | (show okH _ _ _ = true; kernel_rfl) | omega | rfl | (simp <;> omega)
    refine awp_cond (b := true) (p := 2) (by simp [scal, f2] <;> omega) ?_
    refine awp_seqR fun K hK => ?_
    simp (disch := omega) [ints, rows, scal, wr64, wr8]
    (repeat' first | apply hK | apply And.intro) <;> try first | (show okH _ _ _ = true; kernel_rfl) | omega | rfl | (simp <;> omega)
    refine awp_ret ?_
    refine ⟨⟨.inr rfl, _, [], rfl, trivial, trivial, by simp [dfG], ?_⟩, by simp [dfG]⟩
    simp [dfG]
   have g3 : decide (nxt[q][x] ≥ (bs.length : Int)) = false := by simp; omega
   refine awp_seqR fun K hK => ?_
   simp (disch := omega) [ints, rows, scal, wr64, wr8, g2, g3, f1, f2]
   (repeat' first | apply hK | apply And.intro) <;> try first | (show okH _ _ _ = true; kernel_rfl) | omega | rfl | (simp <;> omega)
   refine awp_cond (b := false) (p := 2) (by simp [scal, f2] <;> omega) ?_
   refine awp_skip ?_
   show awp _ _ _ _
   refine awp_R fun K hK => ?_
   simp (disch := omega) [ints, rows, scal, wr64, wr8]
   (repeat' first | apply hK | apply And.intro) <;> try first | (show okH _ _ _ = true; kernel_rfl) | omega | rfl | (simp <;> omega)
   refine ⟨x + 1, ⟨by omega, fun k hk h => ?_⟩, by omega, ?_⟩
   ·by_cases hkx : k = x
    ·subst hkx; omega
    ·exact hy k hk (by omega)
   refine wk_list [(0, some 0)] rfl ?_ ?_ ?_ ?_
   all_goals try simp [ints, rows, bools, ints]
  ·refine awp_cond (b := false) (p := 2) (by simp [scal, hxl] <;> omega) ?_
   refine awp_exit ?_
   show awp _ _ _ _
   refine awp_R fun K hK => ?_
   simp (disch := omega) [ints, rows, scal, wr64, wr8]
   (repeat' first | apply hK | apply And.intro) <;> try first | (show okH _ _ _ = true; kernel_rfl) | omega | rfl | (simp <;> omega)
   refine ⟨q + 1, ⟨by omega, fun k hk h => ?_⟩, by omega, ?_⟩
   ·by_cases hkq : k = q
    ·subst hkq; exact rowB_ok hlen (fun y hy2 => hy y hy2 (by omega))
    ·exact hz k hk (by omega)
   refine wk_list [(0, some 0)] rfl ?_ ?_ ?_ ?_
   all_goals try simp [ints, rows, bools]
 ·obtain rfl : e = 0 := by rw [← he]; exact valE_ok hL (by omega) (fun k hk => hz k hk (by omega))
  refine awp_cond (b := false) (p := 2) (by simp [scal, hqn] <;> omega) ?_
  refine awp_exit ?_
  show awp _ _ _ _
  refine awp_seqR fun K hK => ?_
  simp (disch := omega) [ints, rows, scal, wr64, wr8]
  (repeat' first | apply hK | apply And.intro) <;> try first | (show okH _ _ _ = true; kernel_rfl) | omega | rfl | (simp <;> omega)
  refine awp_ret ?_
  refine ⟨⟨.inr rfl, _, [], rfl, trivial, trivial, by simp [dfG], ?_⟩, by simp [dfG]⟩
  simp [dfG]
end Go.Proofs.YtnffigeofdagfaaDoor.M
