/-
  Walks in my logic: what Right, Left and Ordered of both sides say of an invalid automaton; the law MonomialSidesRaw.
-/
import Derived.Test.YtnffigeofdagfaaDoorZoay
import Derived.Test.YtnffigeofdagfaaDoorZobs
namespace Go.Proofs.YtnffigeofdagfaaDoor.M
open Go.RowKit
set_option linter.unusedVariables false
attribute [local simp] KL_ap KD_ap awpL_nil awpL_cons awpD_nil awpD_cons awpOp awpOpD wrE gd aop aBuiltin aNil aMin ASt.eval AV.ofV dstOk ASt.app Eff.heap dels upd_b aLoad aStore aField aFieldV aIndexAddr aIndex aSlice aSliceO aLen aBin iB sB aUn aConv aAlloc aBox aBuild afill avCells AV.leaf setR aBuildSlice frz frzL isOwn vecOf tsOf aMake srcOf aAppend aMkMap aMapUpd aLookup oint cut putL AObj.cnt mkS envOf_nil envOf_cons heapOf_nil heapOf_cons argS Nat.blt_eq callS outV outVs outO heap2 addL delL List.getElem?_cons_zero okO inPs inP ghA ghA1 wkPs wkP unm resV wkE wkH wkO keysNd mpOf_nil mpOf_cons
set_option linter.unusedSimpArgs false

def zDf : AV := .agg [.t 2 (.int .i64 0), .t 2 (.int .i64 0), .t 2 (.sl 0 []), .t 2 (.sl 0 [])]
set_option maxRecDepth 100000 in
set_option maxHeartbeats 8000000 in
theorem rightE_fn {Le St e : Int} {bs : List Bool} {nxt : List (List Int)} (hbn : bs.length ≤ 40) (hnn : nxt.length ≤ 40) (hrn : ∀ r ∈ nxt, r.length ≤ 10) (he : valE Le St bs nxt = e) (hne : e ≠ 0) : FnA Tryd.prog 18 [dfG 0 Le St bs nxt] (monE e) := by
 have hval := dvalidateG_fn hbn hnn hrn he
 have heb : (e != 0) = true := bne_iff_ne.2 hne
 have heq : (e == 0) = false := beq_eq_false_iff_ne.2 hne
 refine fn_intro Tryd.func18 rfl (by simp [Tryd.f18]) ?_
 rw [show Tryd.f18.ntmps = 41 from rfl, show Tryd.f18.results = #[.tmp 2, .tmp 3] from rfl]
 refine awp_seqR fun K hK => ?_
 simp (disch := omega) [ints, rows, scal, wr64, wr8, dfG, bools]
 (repeat' first | apply hK | apply And.intro) <;> try first | (show okH _ _ _ = true; kernel_rfl) | omega | rfl | (simp <;> omega)
 refine awp_seq ?_
 refine awp_seqR fun K hK => ?_
 simp (disch := omega) [ints, rows, scal, wr64, wr8]
 (repeat' apply And.intro)
 all_goals (try omega)
 refine call_rule (caps := []) (hval) [] [] 2 rfl rfl rfl rfl (by kernel_rfl) (by simp) ?_ trivial trivial rfl trivial trivial (by simp) ?_
 ·simp [scal, rows, ints, dfG, bools]
 simp (disch := omega) [ints, rows, scal, wr64, wr8]
 (repeat' first | apply hK | apply And.intro) <;> try first | (show okH _ _ _ = true; kernel_rfl) | omega | rfl | (simp <;> omega)
 refine awp_seqR fun K hK => ?_
 simp (disch := omega) [ints, rows, scal, wr64, wr8, heb]
 (repeat' first | apply hK | apply And.intro) <;> try first | (show okH _ _ _ = true; kernel_rfl) | omega | rfl | (simp <;> omega)
 refine awp_cond (b := true) (p := 2) (by simp [scal, hne] <;> omega) ?_
 refine awp_seqR fun K hK => ?_
 simp (disch := omega) [ints, rows, scal, wr64, wr8]
 (repeat' first | apply hK | apply And.intro) <;> try first | (show okH _ _ _ = true; kernel_rfl) | omega | rfl | (simp <;> omega)
 refine awp_ret ?_
 refine ⟨⟨.inr rfl, _, [], rfl, trivial, trivial, by simp [dfG, monE], ?_⟩, by simp [dfG, monE]⟩
 simp [dfG, monE]
set_option maxRecDepth 100000 in
set_option maxHeartbeats 8000000 in
theorem rRightE_fn {Le St e : Int} {bs : List Bool} {nxt : List (List Int)} (hbn : bs.length ≤ 40) (hnn : nxt.length ≤ 40) (hrn : ∀ r ∈ nxt, r.length ≤ 10) (he : valE Le St bs nxt = e) (hne : e ≠ 0) : FnA Tryd.prog 19 [dfG 0 Le St bs nxt] (monE e) := by
 have hval := validate07G_fn hbn hnn hrn he
 have heb : (e != 0) = true := bne_iff_ne.2 hne
 have heq : (e == 0) = false := beq_eq_false_iff_ne.2 hne
 refine fn_intro Tryd.func19 rfl (by simp [Tryd.f19]) ?_
 rw [show Tryd.f19.ntmps = 40 from rfl, show Tryd.f19.results = #[.tmp 2, .tmp 3] from rfl]
 refine awp_seqR fun K hK => ?_
 simp (disch := omega) [ints, rows, scal, wr64, wr8, dfG, bools]
 (repeat' first | apply hK | apply And.intro) <;> try first | (show okH _ _ _ = true; kernel_rfl) | omega | rfl | (simp <;> omega)
 refine awp_seq ?_
 refine awp_seqR fun K hK => ?_
 simp (disch := omega) [ints, rows, scal, wr64, wr8]
 (repeat' apply And.intro)
 all_goals (try omega)
 refine call_rule (caps := []) (hval) [] [] 2 rfl rfl rfl rfl (by kernel_rfl) (by simp) ?_ trivial trivial rfl trivial trivial (by simp) ?_
 ·simp [scal, rows, ints, dfG, bools]
 simp (disch := omega) [ints, rows, scal, wr64, wr8]
 (repeat' first | apply hK | apply And.intro) <;> try first | (show okH _ _ _ = true; kernel_rfl) | omega | rfl | (simp <;> omega)
 refine awp_seqR fun K hK => ?_
 simp (disch := omega) [ints, rows, scal, wr64, wr8, heb]
 (repeat' first | apply hK | apply And.intro) <;> try first | (show okH _ _ _ = true; kernel_rfl) | omega | rfl | (simp <;> omega)
 refine awp_cond (b := true) (p := 2) (by simp [scal, hne] <;> omega) ?_
 refine awp_seqR fun K hK => ?_
 simp (disch := omega) [ints, rows, scal, wr64, wr8]
 (repeat' first | apply hK | apply And.intro) <;> try first | (show okH _ _ _ = true; kernel_rfl) | omega | rfl | (simp <;> omega)
 refine awp_ret ?_
 refine ⟨⟨.inr rfl, _, [], rfl, trivial, trivial, by simp [dfG, monE], ?_⟩, by simp [dfG, monE]⟩
 simp [dfG, monE]
set_option maxRecDepth 100000 in
set_option maxHeartbeats 8000000 in
theorem rLeftE_fn {Le St e : Int} {bs : List Bool} {nxt : List (List Int)} (hbn : bs.length ≤ 40) (hnn : nxt.length ≤ 40) (hrn : ∀ r ∈ nxt, r.length ≤ 10) (he : valE Le St bs nxt = e) (hne : e ≠ 0) : FnA Tryd.prog 21 [dfG 0 Le St bs nxt] (monE e) := by
 have hval := validate07G_fn hbn hnn hrn he
 have heb : (e != 0) = true := bne_iff_ne.2 hne
 have heq : (e == 0) = false := beq_eq_false_iff_ne.2 hne
 refine fn_intro Tryd.func21 rfl (by simp [Tryd.f21]) ?_
 rw [show Tryd.f21.ntmps = 44 from rfl, show Tryd.f21.results = #[.tmp 2, .tmp 3] from rfl]
 refine awp_seqR fun K hK => ?_
 simp (disch := omega) [ints, rows, scal, wr64, wr8, dfG, bools]
 (repeat' first | apply hK | apply And.intro) <;> try first | (show okH _ _ _ = true; kernel_rfl) | omega | rfl | (simp <;> omega)
 refine awp_seq ?_
 refine awp_seqR fun K hK => ?_
 simp (disch := omega) [ints, rows, scal, wr64, wr8]
 (repeat' apply And.intro)
 all_goals (try omega)
 refine call_rule (caps := []) (hval) [] [] 2 rfl rfl rfl rfl (by kernel_rfl) (by simp) ?_ trivial trivial rfl trivial trivial (by simp) ?_
 ·simp [scal, rows, ints, dfG, bools]
 simp (disch := omega) [ints, rows, scal, wr64, wr8]
 (repeat' first | apply hK | apply And.intro) <;> try first | (show okH _ _ _ = true; kernel_rfl) | omega | rfl | (simp <;> omega)
 refine awp_seqR fun K hK => ?_
 simp (disch := omega) [ints, rows, scal, wr64, wr8, heb]
 (repeat' first | apply hK | apply And.intro) <;> try first | (show okH _ _ _ = true; kernel_rfl) | omega | rfl | (simp <;> omega)
 refine awp_cond (b := true) (p := 2) (by simp [scal, hne] <;> omega) ?_
 refine awp_seqR fun K hK => ?_
 simp (disch := omega) [ints, rows, scal, wr64, wr8]
 (repeat' first | apply hK | apply And.intro) <;> try first | (show okH _ _ _ = true; kernel_rfl) | omega | rfl | (simp <;> omega)
 refine awp_ret ?_
 refine ⟨⟨.inr rfl, _, [], rfl, trivial, trivial, by simp [dfG, monE], ?_⟩, by simp [dfG, monE]⟩
 simp [dfG, monE]
set_option maxRecDepth 100000 in
set_option maxHeartbeats 8000000 in
theorem lminE_fn {Le St e : Int} {bs : List Bool} {nxt : List (List Int)} (hbn : bs.length ≤ 40) (hnn : nxt.length ≤ 40) (hrn : ∀ r ∈ nxt, r.length ≤ 10) (he : valE Le St bs nxt = e) (hne : e ≠ 0) : FnA Tryd.prog 73 [dfG 0 Le St bs nxt] (.tup [zDf, .t 2 (.int .i64 e)]) := by
 have hval := dvalidateG_fn hbn hnn hrn he
 have heb : (e != 0) = true := bne_iff_ne.2 hne
 have heq : (e == 0) = false := beq_eq_false_iff_ne.2 hne
 refine fn_intro Tryd.func73 rfl (by simp [Tryd.f73]) ?_
 rw [show Tryd.f73.ntmps = 13 from rfl, show Tryd.f73.results = #[.cell 2 32, .tmp 3] from rfl]
 refine awp_seqR fun K hK => ?_
 simp (disch := omega) [ints, rows, scal, wr64, wr8, dfG, bools]
 (repeat' first | apply hK | apply And.intro) <;> try first | (show okH _ _ _ = true; kernel_rfl) | omega | rfl | (simp <;> omega)
 refine awp_seq ?_
 refine awp_seqR fun K hK => ?_
 simp (disch := omega) [ints, rows, scal, wr64, wr8]
 (repeat' apply And.intro)
 all_goals (try omega)
 refine call_rule (caps := []) (hval) [] [] 2 rfl rfl rfl rfl (by kernel_rfl) (by simp) ?_ trivial trivial rfl trivial trivial (by simp) ?_
 ·simp [scal, rows, ints, dfG, bools]
 simp (disch := omega) [ints, rows, scal, wr64, wr8]
 (repeat' first | apply hK | apply And.intro) <;> try first | (show okH _ _ _ = true; kernel_rfl) | omega | rfl | (simp <;> omega)
 refine awp_seqR fun K hK => ?_
 simp (disch := omega) [ints, rows, scal, wr64, wr8, heb]
 (repeat' first | apply hK | apply And.intro) <;> try first | (show okH _ _ _ = true; kernel_rfl) | omega | rfl | (simp <;> omega)
 refine awp_cond (b := true) (p := 2) (by simp [scal, hne] <;> omega) ?_
 refine awp_seqR fun K hK => ?_
 simp (disch := omega) [ints, rows, scal, wr64, wr8]
 (repeat' first | apply hK | apply And.intro) <;> try first | (show okH _ _ _ = true; kernel_rfl) | omega | rfl | (simp <;> omega)
 refine awp_ret ?_
 refine ⟨⟨.inr rfl, _, [], (by simp; rfl), trivial, trivial, by simp [dfG, zDf], ?_⟩, by simp [dfG, zDf]⟩
 simp [ints, rows, dfG, zDf]
set_option maxRecDepth 100000 in
set_option maxHeartbeats 8000000 in
theorem lrevE_fn {Le St e : Int} {bs : List Bool} {nxt : List (List Int)} (hbn : bs.length ≤ 40) (hnn : nxt.length ≤ 40) (hrn : ∀ r ∈ nxt, r.length ≤ 10) (he : valE Le St bs nxt = e) (hne : e ≠ 0) : FnA Tryd.prog 51 [dfG 0 Le St bs nxt] (.tup [zDf, .t 2 (.int .i64 e)]) := by
 have hval := lminE_fn hbn hnn hrn he hne
 have heb : (e != 0) = true := bne_iff_ne.2 hne
 have heq : (e == 0) = false := beq_eq_false_iff_ne.2 hne
 refine fn_intro Tryd.func51 rfl (by simp [Tryd.f51]) ?_
 rw [show Tryd.f51.ntmps = 30 from rfl, show Tryd.f51.results = #[.cell 2 32, .tmp 3] from rfl]
 refine awp_seqR fun K hK => ?_
 simp (disch := omega) [ints, rows, scal, wr64, wr8, dfG, bools]
 (repeat' first | apply hK | apply And.intro) <;> try first | (show okH _ _ _ = true; kernel_rfl) | omega | rfl | (simp <;> omega)
 refine awp_seqR fun K hK => ?_
 simp (disch := omega) [ints, rows, scal, wr64, wr8]
 (repeat' apply And.intro)
 all_goals (try omega)
 refine call_rule (caps := []) (hval) [] [] 2 rfl rfl rfl rfl (by kernel_rfl) (by simp) ?_ trivial trivial rfl trivial trivial (by simp) ?_
 ·simp [scal, rows, ints, dfG, bools]
 simp (disch := omega) [ints, rows, scal, wr64, wr8, zDf]
 (repeat' first | apply hK | apply And.intro) <;> try first | (show okH _ _ _ = true; kernel_rfl) | omega | rfl | (simp <;> omega)
 refine awp_seq ?_
 refine awp_seqR fun K hK => ?_
 simp (disch := omega) [ints, rows, scal, wr64, wr8, heb]
 (repeat' first | apply hK | apply And.intro) <;> try first | (show okH _ _ _ = true; kernel_rfl) | omega | rfl | (simp <;> omega)
 refine awp_cond (b := true) (p := 2) (by simp [scal, hne] <;> omega) ?_
 refine awp_seqR fun K hK => ?_
 simp (disch := omega) [ints, rows, scal, wr64, wr8]
 (repeat' first | apply hK | apply And.intro) <;> try first | (show okH _ _ _ = true; kernel_rfl) | omega | rfl | (simp <;> omega)
 refine awp_ret ?_
 refine ⟨⟨.inr rfl, _, [], (by simp; rfl), trivial, trivial, by simp [dfG, zDf], ?_⟩, by simp [dfG, zDf]⟩
 simp [ints, rows, dfG, zDf]
set_option maxRecDepth 100000 in
set_option maxHeartbeats 8000000 in
theorem leftE_fn {Le St e : Int} {bs : List Bool} {nxt : List (List Int)} (hbn : bs.length ≤ 40) (hnn : nxt.length ≤ 40) (hrn : ∀ r ∈ nxt, r.length ≤ 10) (he : valE Le St bs nxt = e) (hne : e ≠ 0) : FnA Tryd.prog 20 [dfG 0 Le St bs nxt] (monE e) := by
 have hval := lrevE_fn hbn hnn hrn he hne
 have heb : (e != 0) = true := bne_iff_ne.2 hne
 have heq : (e == 0) = false := beq_eq_false_iff_ne.2 hne
 refine fn_intro Tryd.func20 rfl (by simp [Tryd.f20]) ?_
 rw [show Tryd.f20.ntmps = 39 from rfl, show Tryd.f20.results = #[.tmp 2, .tmp 3] from rfl]
 refine awp_seqR fun K hK => ?_
 simp (disch := omega) [ints, rows, scal, wr64, wr8, dfG, bools]
 (repeat' first | apply hK | apply And.intro) <;> try first | (show okH _ _ _ = true; kernel_rfl) | omega | rfl | (simp <;> omega)
 refine awp_seqR fun K hK => ?_
 simp (disch := omega) [ints, rows, scal, wr64, wr8]
 (repeat' apply And.intro)
 all_goals (try omega)
 refine call_rule (caps := []) (hval) [] [] 2 rfl rfl rfl rfl (by kernel_rfl) (by simp) ?_ trivial trivial rfl trivial trivial (by simp) ?_
 ·simp [scal, rows, ints, dfG, bools]
 simp (disch := omega) [ints, rows, scal, wr64, wr8, zDf]
 (repeat' first | apply hK | apply And.intro) <;> try first | (show okH _ _ _ = true; kernel_rfl) | omega | rfl | (simp <;> omega)
 refine awp_seq ?_
 refine awp_seqR fun K hK => ?_
 simp (disch := omega) [ints, rows, scal, wr64, wr8, heb]
 (repeat' first | apply hK | apply And.intro) <;> try first | (show okH _ _ _ = true; kernel_rfl) | omega | rfl | (simp <;> omega)
 refine awp_cond (b := true) (p := 2) (by simp [scal, hne] <;> omega) ?_
 refine awp_seqR fun K hK => ?_
 simp (disch := omega) [ints, rows, scal, wr64, wr8]
 (repeat' first | apply hK | apply And.intro) <;> try first | (show okH _ _ _ = true; kernel_rfl) | omega | rfl | (simp <;> omega)
 refine awp_ret ?_
 refine ⟨⟨.inr rfl, _, [], rfl, trivial, trivial, by simp [dfG, monE], ?_⟩, by simp [dfG, monE]⟩
 simp [dfG, monE]
set_option maxRecDepth 100000 in
set_option maxHeartbeats 8000000 in
theorem rOrderedE_fn {Le St e : Int} {bs : List Bool} {nxt : List (List Int)} (hbn : bs.length ≤ 40) (hnn : nxt.length ≤ 40) (hrn : ∀ r ∈ nxt, r.length ≤ 10) (he : valE Le St bs nxt = e) (hne : e ≠ 0) : FnA Tryd.prog 23 [dfG 0 Le St bs nxt] (.t 2 (.bool false)) := by
 have hval := validate07G_fn hbn hnn hrn he
 have heb : (e != 0) = true := bne_iff_ne.2 hne
 have heq : (e == 0) = false := beq_eq_false_iff_ne.2 hne
 refine fn_intro Tryd.func23 rfl (by simp [Tryd.f23]) ?_
 rw [show Tryd.f23.ntmps = 92 from rfl, show Tryd.f23.results = #[.tmp 2] from rfl]
 refine awp_seqR fun K hK => ?_
 simp (disch := omega) [ints, rows, scal, wr64, wr8, dfG, bools]
 (repeat' first | apply hK | apply And.intro) <;> try first | (show okH _ _ _ = true; kernel_rfl) | omega | rfl | (simp <;> omega)
 refine awp_seq ?_
 refine awp_seqR fun K hK => ?_
 simp (disch := omega) [ints, rows, scal, wr64, wr8]
 (repeat' apply And.intro)
 all_goals (try omega)
 refine call_rule (caps := []) (hval) [] [] 2 rfl rfl rfl rfl (by kernel_rfl) (by simp) ?_ trivial trivial rfl trivial trivial (by simp) ?_
 ·simp [scal, rows, ints, dfG, bools]
 simp (disch := omega) [ints, rows, scal, wr64, wr8, heb]
 (repeat' first | apply hK | apply And.intro) <;> try first | (show okH _ _ _ = true; kernel_rfl) | omega | rfl | (simp <;> omega)
 refine awp_cond (b := true) (p := 2) (by simp [scal, hne] <;> omega) ?_
 refine awp_seqR fun K hK => ?_
 simp (disch := omega) [ints, rows, scal, wr64, wr8]
 (repeat' first | apply hK | apply And.intro) <;> try first | (show okH _ _ _ = true; kernel_rfl) | omega | rfl | (simp <;> omega)
 refine awp_ret ?_
 refine ⟨⟨.inr rfl, _, [], rfl, trivial, trivial, by simp [dfG], ?_⟩, by simp [dfG]⟩
 simp [dfG]
set_option maxRecDepth 100000 in
set_option maxHeartbeats 8000000 in
theorem orderedE_fn {Le St e : Int} {bs : List Bool} {nxt : List (List Int)} (hbn : bs.length ≤ 40) (hnn : nxt.length ≤ 40) (hrn : ∀ r ∈ nxt, r.length ≤ 10) (he : valE Le St bs nxt = e) (hne : e ≠ 0) : FnA Tryd.prog 22 [dfG 0 Le St bs nxt] (.t 2 (.bool false)) := by
 have hval := dvalidateG_fn hbn hnn hrn he
 have heb : (e != 0) = true := bne_iff_ne.2 hne
 have heq : (e == 0) = false := beq_eq_false_iff_ne.2 hne
 refine fn_intro Tryd.func22 rfl (by simp [Tryd.f22]) ?_
 rw [show Tryd.f22.ntmps = 11 from rfl, show Tryd.f22.results = #[.tmp 2] from rfl]
 refine awp_seqR fun K hK => ?_
 simp (disch := omega) [ints, rows, scal, wr64, wr8, dfG, bools]
 (repeat' first | apply hK | apply And.intro) <;> try first | (show okH _ _ _ = true; kernel_rfl) | omega | rfl | (simp <;> omega)
 refine awp_seqR fun K hK => ?_
 simp (disch := omega) [ints, rows, scal, wr64, wr8]
 (repeat' apply And.intro)
 all_goals (try omega)
 refine call_rule (caps := []) (hval) [] [] 2 rfl rfl rfl rfl (by kernel_rfl) (by simp) ?_ trivial trivial rfl trivial trivial (by simp) ?_
 ·simp [scal, rows, ints, dfG, bools]
 simp (disch := omega) [ints, rows, scal, wr64, wr8, heq]
 (repeat' first | apply hK | apply And.intro) <;> try first | (show okH _ _ _ = true; kernel_rfl) | omega | rfl | (simp <;> omega)
 refine awp_ret ?_
 refine ⟨⟨.inr rfl, _, [], rfl, trivial, trivial, by simp [dfG], ?_⟩, by simp [dfG]⟩
 simp [dfG]
theorem sides_raw {Le St : Int} {bs : List Bool} {nxt : List (List Int)} (hbn : bs.length ≤ 40) (hnn : nxt.length ≤ 40) (hrn : ∀ r ∈ nxt, r.length ≤ 10) (hsm : valE Le St bs nxt = 0 → bs.length ≤ 7) :
  ∃ (l1 l2 : List Mo) (e1 e2 : Int) (c : Bool), (l1.length ≤ 400 ∧ ∀ p ∈ l1, p.1.length ≤ 61 ∧ p.2.length ≤ 61) ∧ (l2.length ≤ 400 ∧ ∀ p ∈ l2, p.1.length ≤ 61 ∧ p.2.length ≤ 61) ∧
   FnA Tryd.prog 18 [dfG 0 Le St bs nxt] (monR (l1, e1)) ∧ FnA Tryd.prog 19 [dfG 0 Le St bs nxt] (monR (l1, e1)) ∧
   FnA Tryd.prog 20 [dfG 0 Le St bs nxt] (monR (l2, e2)) ∧ FnA Tryd.prog 21 [dfG 0 Le St bs nxt] (monR (l2, e2)) ∧
   FnA Tryd.prog 22 [dfG 0 Le St bs nxt] (.t 2 (.bool c)) ∧ FnA Tryd.prog 23 [dfG 0 Le St bs nxt] (.t 2 (.bool c)) := by
 by_cases h0 : valE Le St bs nxt = 0
 ·have hn := hsm h0
  obtain ⟨L, s, rfl, rfl, hL, hL6, hD⟩ := valE_df h0
  obtain ⟨l1, e1, h1, r1, r2⟩ := rights_fn hD hL hL6 (by omega)
  obtain ⟨l2, e2, h2, f1, f2⟩ := lefts_fn hD hL hL6 (by omega)
  obtain ⟨c, o1, o2⟩ := ordereds_fn hD hL hL6 (by omega)
  exact ⟨l1, l2, e1, e2, c, h1, h2, r1, r2, f1, f2, o1, o2⟩
 ·refine ⟨[], [], valE Le St bs nxt, valE Le St bs nxt, false, ⟨by simp, fun p hp => by simp at hp⟩, ⟨by simp, fun p hp => by simp at hp⟩, ?_, ?_, ?_, ?_, orderedE_fn hbn hnn hrn rfl h0, rOrderedE_fn hbn hnn hrn rfl h0⟩
  ·exact (rightE_fn hbn hnn hrn rfl h0).resX fun E v => monE_R
  ·exact (rRightE_fn hbn hnn hrn rfl h0).resX fun E v => monE_R
  ·exact (leftE_fn hbn hnn hrn rfl h0).resX fun E v => monE_R
  ·exact (rLeftE_fn hbn hnn hrn rfl h0).resX fun E v => monE_R
set_option maxRecDepth 100000 in
set_option maxHeartbeats 16000000 in
theorem monSidesRaw_fn (Le St : Int) (bs : List Bool) (nxt : List (List Int)) : FnA Tryd.prog 5 [dfG 1 Le St bs nxt] (.t 2 (.bool true)) := by
 obtain ⟨_, ⟨b, hb, rfl⟩, hfew⟩ := few_fn Le St bs nxt
 cases b with
 | false =>
  refine fn_intro Tryd.func5 rfl (by simp [Tryd.f5]) ?_
  rw [show Tryd.f5.ntmps = 73 from rfl, show Tryd.f5.results = #[.tmp 2] from rfl]
  refine awp_seqR fun K hK => ?_
  simp (disch := omega) [ints, rows, scal, wr64, wr8, dfG, bools]
  (repeat' first | apply hK | apply And.intro) <;> try first | (show okH _ _ _ = true; kernel_rfl) | omega | rfl | (simp <;> omega)
  refine awp_seq ?_
  refine awp_seqR fun K hK => ?_
  simp (disch := omega) [ints, rows, scal, wr64, wr8]
  (repeat' apply And.intro)
  all_goals (try omega)
  refine call_rule (caps := []) (hfew) [] [] 2 rfl rfl rfl rfl (by kernel_rfl) (by simp) ?_ trivial trivial rfl trivial trivial (by simp) ?_
  ·simp [scal, rows, ints, dfG, bools]
  simp (disch := omega) [ints, rows, scal, wr64, wr8]
  (repeat' first | apply hK | apply And.intro) <;> try first | (show okH _ _ _ = true; kernel_rfl) | omega | rfl | (simp <;> omega)
  refine awp_cond (b := true) (p := 2) (by simp [scal] <;> omega) ?_
  refine awp_seqR fun K hK => ?_
  simp (disch := omega) [ints, rows, scal, wr64, wr8]
  (repeat' first | apply hK | apply And.intro) <;> try first | (show okH _ _ _ = true; kernel_rfl) | omega | rfl | (simp <;> omega)
  refine awp_ret ?_
  refine ⟨⟨.inr rfl, _, [], rfl, trivial, trivial, by simp [dfG], ?_⟩, by simp [dfG]⟩
  simp [dfG]
 | true =>
  obtain ⟨hbn, hnn, hrn⟩ := hb rfl
  obtain ⟨e, he⟩ : ∃ e, valE Le St bs nxt = e := ⟨_, rfl⟩
  have hval := validate07G_fn hbn hnn hrn he
  by_cases hbig : 7 < bs.length ∧ e = 0
  ·obtain ⟨h7, rfl⟩ := hbig
   have d7 : decide ((bs.length : Int) > 7) = true := decide_eq_true (by omega)
   refine fn_intro Tryd.func5 rfl (by simp [Tryd.f5]) ?_
   rw [show Tryd.f5.ntmps = 73 from rfl, show Tryd.f5.results = #[.tmp 2] from rfl]
   refine awp_seqR fun K hK => ?_
   simp (disch := omega) [ints, rows, scal, wr64, wr8, dfG, bools]
   (repeat' first | apply hK | apply And.intro) <;> try first | (show okH _ _ _ = true; kernel_rfl) | omega | rfl | (simp <;> omega)
   refine awp_seq ?_
   refine awp_seqR fun K hK => ?_
   simp (disch := omega) [ints, rows, scal, wr64, wr8]
   (repeat' apply And.intro)
   all_goals (try omega)
   refine call_rule (caps := []) (hfew) [] [] 2 rfl rfl rfl rfl (by kernel_rfl) (by simp) ?_ trivial trivial rfl trivial trivial (by simp) ?_
   ·simp [scal, rows, ints, dfG, bools]
   simp (disch := omega) [ints, rows, scal, wr64, wr8, d7, bools]
   (repeat' apply And.intro)
   all_goals (try omega)
   refine call_rule (caps := []) (hval) [] [] 2 (by simp [scal, rows, ints, dfG, bools]) rfl rfl rfl (by kernel_rfl) (by simp) ?_ trivial trivial rfl trivial trivial (by simp) ?_
   ·simp [scal, rows, ints, dfG, bools]
   simp (disch := omega) [ints, rows, scal, wr64, wr8]
   (repeat' first | apply hK | apply And.intro) <;> try first | (show okH _ _ _ = true; kernel_rfl) | omega | rfl | (simp <;> omega)
   refine awp_cond (b := true) (p := 2) (by simp [scal] <;> omega) ?_
   refine awp_seqR fun K hK => ?_
   simp (disch := omega) [ints, rows, scal, wr64, wr8]
   (repeat' first | apply hK | apply And.intro) <;> try first | (show okH _ _ _ = true; kernel_rfl) | omega | rfl | (simp <;> omega)
   refine awp_ret ?_
   refine ⟨⟨.inr rfl, _, [], rfl, trivial, trivial, by simp [dfG], ?_⟩, by simp [dfG]⟩
   simp [dfG]
  ·obtain ⟨l1, l2, e1, e2, c, ⟨hl1, hs1⟩, ⟨hl2, hs2⟩, hr1, hr2, hf1, hf2, ho1, ho2⟩ := sides_raw hbn hnn hrn (fun h => by rw [he] at h; omega)
   have hq1 := rsame35_fn l1 hl1 hs1
   have hq2 := rsame35_fn l2 hl2 hs2
   refine fn_intro Tryd.func5 rfl (by simp [Tryd.f5]) ?_
   rw [show Tryd.f5.ntmps = 73 from rfl, show Tryd.f5.results = #[.tmp 2] from rfl]
   refine awp_seqR fun K hK => ?_
   simp (disch := omega) [ints, rows, scal, wr64, wr8, dfG, bools]
   (repeat' first | apply hK | apply And.intro) <;> try first | (show okH _ _ _ = true; kernel_rfl) | omega | rfl | (simp <;> omega)
   refine awp_join (fun σ' => Wk σ' (mkS [(1, .ptr 0 0 4)] [(0, .box 32 [.t 2 (.int .i64 Le), .t 2 (.int .i64 St), .t 1 (bools bs), .t 1 (rows nxt)])] 1 73 [.any])) ?_ ?_
   ·intro σ' hw
    refine awp_weak hw ?_
    clear hw
    refine awp_seqR fun K hK => ?_
    simp (disch := omega) [ints, rows, scal, wr64, wr8]
    (repeat' apply And.intro)
    all_goals (try omega)
    refine call_rule (caps := []) (hr1) [] [] 2 rfl rfl rfl rfl (by kernel_rfl) (by simp) ?_ trivial trivial rfl trivial trivial (by simp) ?_
    ·simp [scal, rows, ints, dfG, bools]
    simp (disch := omega) [ints, rows, scal, wr64, wr8, monR]
    (repeat' first | apply hK | apply And.intro) <;> try first | (show okH _ _ _ = true; kernel_rfl) | omega | rfl | (simp <;> omega)
    refine awp_seqR fun K hK => ?_
    simp (disch := omega) [ints, rows, scal, wr64, wr8]
    (repeat' apply And.intro)
    all_goals (try omega)
    refine call_rule (caps := []) (hr2) [] [] 2 rfl rfl rfl rfl (by kernel_rfl) (by simp) ?_ trivial trivial rfl trivial trivial (by simp) ?_
    ·simp [scal, rows, ints, dfG, bools]
    simp (disch := omega) [ints, rows, scal, wr64, wr8, monR]
    (repeat' first | apply hK | apply And.intro) <;> try first | (show okH _ _ _ = true; kernel_rfl) | omega | rfl | (simp <;> omega)
    refine awp_seqR fun K hK => ?_
    simp (disch := omega) [ints, rows, scal, wr64, wr8]
    (repeat' apply And.intro)
    all_goals (try omega)
    refine call_rule (caps := []) (hf1) [] [] 2 rfl rfl rfl rfl (by kernel_rfl) (by simp) ?_ trivial trivial rfl trivial trivial (by simp) ?_
    ·simp [scal, rows, ints, dfG, bools]
    simp (disch := omega) [ints, rows, scal, wr64, wr8, monR]
    (repeat' first | apply hK | apply And.intro) <;> try first | (show okH _ _ _ = true; kernel_rfl) | omega | rfl | (simp <;> omega)
    refine awp_seqR fun K hK => ?_
    simp (disch := omega) [ints, rows, scal, wr64, wr8]
    (repeat' apply And.intro)
    all_goals (try omega)
    refine call_rule (caps := []) (hf2) [] [] 2 rfl rfl rfl rfl (by kernel_rfl) (by simp) ?_ trivial trivial rfl trivial trivial (by simp) ?_
    ·simp [scal, rows, ints, dfG, bools]
    simp (disch := omega) [ints, rows, scal, wr64, wr8, monR]
    (repeat' first | apply hK | apply And.intro) <;> try first | (show okH _ _ _ = true; kernel_rfl) | omega | rfl | (simp <;> omega)
    refine awp_seqD (by kernel_rfl) (fun K hK => ?_)
    simp (disch := omega) [ints, rows, scal, wr64, wr8]
    (repeat' apply And.intro)
    all_goals (try omega)
    refine call_ruleD (caps := []) (ho1) [] [] 2 rfl rfl rfl rfl (by kernel_rfl) (by simp) ?_ trivial trivial rfl trivial trivial (by simp) ?_
    ·simp [scal, rows, ints, dfG, bools]
    simp (disch := omega) [ints, rows, scal, wr64, wr8]
    (repeat' apply And.intro)
    all_goals (try omega)
    refine call_ruleD (caps := []) (ho2) [] [] 2 rfl rfl rfl rfl (by kernel_rfl) (by simp) ?_ trivial trivial rfl trivial trivial (by simp) ?_
    ·simp [scal, rows, ints, dfG, bools]
    simp (disch := omega) [ints, rows, scal, wr64, wr8]
    (repeat' apply And.intro)
    all_goals (try omega)
    refine call_ruleD (caps := []) (hq1) [] [] 2 (by simp [scal, rows, ints]) rfl rfl rfl (by kernel_rfl) (by simp) ?_ trivial trivial rfl trivial trivial (by simp) ?_
    ·simp [scal, rows, ints]
    simp (disch := omega) [ints, rows, scal, wr64, wr8]
    (repeat' apply And.intro)
    all_goals (try omega)
    refine call_ruleD (caps := []) (hq2) [] [] 2 (by simp [scal, rows, ints]) rfl rfl rfl (by kernel_rfl) (by simp) ?_ trivial trivial rfl trivial trivial (by simp) ?_
    ·simp [scal, rows, ints]
    simp (disch := omega) [ints, rows, scal, wr64, wr8]
    (repeat' apply And.intro)
    all_goals (try omega)
    refine call_ruleD (caps := []) (known35M_fn) [] [] 2 (by simp [scal, rows, ints]) rfl rfl rfl (by kernel_rfl) (by simp) ?_ trivial trivial rfl trivial trivial (by simp) ?_
    ·simp [scal, rows, ints]
    simp (disch := omega) [ints, rows, scal, wr64, wr8]
    (repeat' first | apply hK | apply And.intro) <;> try first | (show chkD _ _ = true; kernel_rfl) | (show okH _ _ _ = true; kernel_rfl) | omega | rfl | (simp <;> omega)
    refine awp_ret ?_
    refine ⟨⟨.inr rfl, _, [], rfl, trivial, trivial, by simp [dfG], ?_⟩, by simp [dfG]⟩
    simp [dfG]
   ·by_cases h7 : 7 < bs.length
    ·have d7 : decide ((bs.length : Int) > 7) = true := decide_eq_true (by omega)
     have heq : (e == 0) = false := beq_eq_false_iff_ne.2 (by omega)
     refine awp_seqR fun K hK => ?_
     simp (disch := omega) [ints, rows, scal, wr64, wr8]
     (repeat' apply And.intro)
     all_goals (try omega)
     refine call_rule (caps := []) (hfew) [] [] 2 rfl rfl rfl rfl (by kernel_rfl) (by simp) ?_ trivial trivial rfl trivial trivial (by simp) ?_
     ·simp [scal, rows, ints, dfG, bools]
     simp (disch := omega) [ints, rows, scal, wr64, wr8, d7, bools]
     (repeat' apply And.intro)
     all_goals (try omega)
     refine call_rule (caps := []) (hval) [] [] 2 (by simp [scal, rows, ints, dfG, bools]) rfl rfl rfl (by kernel_rfl) (by simp) ?_ trivial trivial rfl trivial trivial (by simp) ?_
     ·simp [scal, rows, ints, dfG, bools]
     simp (disch := omega) [ints, rows, scal, wr64, wr8, heq]
     (repeat' first | apply hK | apply And.intro) <;> try first | (show okH _ _ _ = true; kernel_rfl) | omega | rfl | (simp <;> omega)
     refine awp_cond (b := false) (p := 2) (by simp [scal] <;> omega) ?_
     refine awp_skip ?_
     refine wk_list [(0, some 0)] rfl ?_ ?_ ?_ ?_
     all_goals try simp [ints, rows, bools, dfG]
    ·have d7 : decide ((bs.length : Int) > 7) = false := decide_eq_false (by omega)
     refine awp_seqR fun K hK => ?_
     simp (disch := omega) [ints, rows, scal, wr64, wr8]
     (repeat' apply And.intro)
     all_goals (try omega)
     refine call_rule (caps := []) (hfew) [] [] 2 rfl rfl rfl rfl (by kernel_rfl) (by simp) ?_ trivial trivial rfl trivial trivial (by simp) ?_
     ·simp [scal, rows, ints, dfG, bools]
     simp (disch := omega) [ints, rows, scal, wr64, wr8, d7, bools]
     (repeat' first | apply hK | apply And.intro) <;> try first | (show okH _ _ _ = true; kernel_rfl) | omega | rfl | (simp <;> omega)
     refine awp_cond (b := false) (p := 2) (by simp [scal] <;> omega) ?_
     refine awp_skip ?_
     refine wk_list [(0, some 0)] rfl ?_ ?_ ?_ ?_
     all_goals try simp [ints, rows, bools, dfG]
end Go.Proofs.YtnffigeofdagfaaDoor.M
