/-
  Walks in my logic: isNaN, Compare, Or (cmp), compareEdges (nfa).
-/
import Derived.Test.YtnffigeofdagfaaDoorZrbl
import Derived.Test.YtnffigeofdagfaaDoorZraq
namespace Go.Proofs.YtnffigeofdagfaaDoor.M
open Go.RowKit
set_option linter.unusedVariables false
attribute [local simp] KL_ap KD_ap awpL_nil awpL_cons awpD_nil awpD_cons awpOp awpOpD wrE gd aop aBuiltin aNil aMin ASt.eval AV.ofV dstOk ASt.app Eff.heap dels upd_b aLoad aStore aField aFieldV aIndexAddr aIndex aSlice aSliceO aLen aBin iB sB aUn aConv aAlloc aBox aBuild afill avCells AV.leaf setR aBuildSlice frz frzL isOwn vecOf tsOf aMake srcOf aAppend aMkMap aMapUpd aLookup oint cut putL AObj.cnt mkS envOf_nil envOf_cons heapOf_nil heapOf_cons argS Nat.blt_eq callS outV outVs outO heap2 addL delL List.getElem?_cons_zero ghA ghA1 wkPs wkP unm okO inPs inP wkE wkH wkO keysNd mpOf_nil mpOf_cons
set_option linter.unusedSimpArgs false

theorem isNaN_fn (x : Int) : FnA Tryd.prog 129 [.t 2 (.int .i64 x)] (.t 2 (.bool false)) := by
 refine fn_intro Tryd.func129 rfl (by simp [Tryd.f129]) ?_
 rw [show Tryd.f129.ntmps = 6 from rfl, show Tryd.f129.results = #[.tmp 2] from rfl]
 refine awp_seqR fun K hK => ?_
 simp (disch := omega) [ints, rows, scal, wr64, wr8]
 (repeat' first | apply hK | apply And.intro) <;> try first | (show okH _ _ _ = true; kernel_rfl) | omega | rfl | (simp <;> omega)
 refine awp_seqR fun K hK => ?_
 simp (disch := omega) [ints, rows, scal, wr64, wr8]
 (repeat' first | apply hK | apply And.intro) <;> try first | (show okH _ _ _ = true; kernel_rfl) | omega | rfl | (simp <;> omega)
 refine awp_ret ?_
 refine ⟨⟨.inr rfl, _, [], rfl, trivial, trivial, by simp, ?_⟩, by simp⟩
 simp
def cmpI (x y : Int) : Int := if x < y then -1 else if y < x then 1 else 0
set_option maxRecDepth 100000 in
theorem compare_fn (x y : Int) : FnA Tryd.prog 111 [.t 2 (.int .i64 x), .t 2 (.int .i64 y)] (.t 2 (.int .i64 (cmpI x y))) := by
 refine fn_intro Tryd.func111 rfl (by simp [Tryd.f111]) ?_
 rw [show Tryd.f111.ntmps = 20 from rfl, show Tryd.f111.results = #[.tmp 4] from rfl]
 refine awp_seqR fun K hK => ?_
 simp (disch := omega) [ints, rows, scal, wr64, wr8]
 (repeat' first | apply hK | apply And.intro) <;> try first | (show okH _ _ _ = true; kernel_rfl) | omega | rfl | (simp <;> omega)
 refine awp_seqR fun K hK => ?_
 simp (disch := omega) [ints, rows, scal, wr64, wr8]
 (repeat' apply And.intro)
 all_goals (try omega)
 refine call_rule (caps := []) (isNaN_fn x) [] [] 2 rfl rfl rfl rfl (by kernel_rfl) (by simp) ?_ trivial trivial rfl trivial trivial (by simp) ?_
 ·simp [scal, rows, ints]
 simp (disch := omega) [ints, rows, scal, wr64, wr8]
 (repeat' first | apply hK | apply And.intro) <;> try first | (show okH _ _ _ = true; kernel_rfl) | omega | rfl | (simp <;> omega)
 refine awp_seqR fun K hK => ?_
 simp (disch := omega) [ints, rows, scal, wr64, wr8]
 (repeat' apply And.intro)
 all_goals (try omega)
 refine call_rule (caps := []) (isNaN_fn y) [] [] 2 rfl rfl rfl rfl (by kernel_rfl) (by simp) ?_ trivial trivial rfl trivial trivial (by simp) ?_
 ·simp [scal, rows, ints]
 simp (disch := omega) [ints, rows, scal, wr64, wr8]
 (repeat' first | apply hK | apply And.intro) <;> try first | (show okH _ _ _ = true; kernel_rfl) | omega | rfl | (simp <;> omega)
 refine awp_seq ?_
 refine awp_seqR fun K hK => ?_
 simp (disch := omega) [ints, rows, scal, wr64, wr8]
 (repeat' first | apply hK | apply And.intro) <;> try first | (show okH _ _ _ = true; kernel_rfl) | omega | rfl | (simp <;> omega)
 refine awp_cond (b := false) (p := 2) (by simp [scal] <;> omega) ?_
 refine awp_skip ?_
 show awp _ _ _ _
 refine awp_seq ?_
 refine awp_seqR fun K hK => ?_
 simp (disch := omega) [ints, rows, scal, wr64, wr8]
 (repeat' first | apply hK | apply And.intro) <;> try first | (show okH _ _ _ = true; kernel_rfl) | omega | rfl | (simp <;> omega)
 refine awp_cond (b := false) (p := 2) (by simp [scal] <;> omega) ?_
 refine awp_skip ?_
 show awp _ _ _ _
 refine awp_seq ?_
 by_cases h1 : x < y
 ·have e : cmpI x y = -1 := by simp [cmpI, h1]
  refine awp_seqR fun K hK => ?_
  simp (disch := omega) [ints, rows, scal, wr64, wr8, h1]
  (repeat' first | apply hK | apply And.intro) <;> try first | (show okH _ _ _ = true; kernel_rfl) | omega | rfl | (simp <;> omega)
  refine awp_cond (b := true) (p := 2) (by simp [scal, h1] <;> omega) ?_
  refine awp_seqR fun K hK => ?_
  simp (disch := omega) [ints, rows, scal, wr64, wr8]
  (repeat' first | apply hK | apply And.intro) <;> try first | (show okH _ _ _ = true; kernel_rfl) | omega | rfl | (simp <;> omega)
  refine awp_ret ?_
  refine ⟨⟨.inr rfl, _, [], rfl, trivial, trivial, by simp [e], ?_⟩, by simp [e]⟩
  simp [e]
 ·refine awp_seqR fun K hK => ?_
  simp (disch := omega) [ints, rows, scal, wr64, wr8, h1]
  (repeat' first | apply hK | apply And.intro) <;> try first | (show okH _ _ _ = true; kernel_rfl) | omega | rfl | (simp <;> omega)
  refine awp_cond (b := false) (p := 2) (by simp [scal, h1] <;> omega) ?_
  refine awp_skip ?_
  show awp _ _ _ _
  refine awp_seq ?_
  by_cases h2 : y < x
  ·have e : cmpI x y = 1 := by simp [cmpI, h1, h2]
   refine awp_seqR fun K hK => ?_
   simp (disch := omega) [ints, rows, scal, wr64, wr8, h2]
   (repeat' first | apply hK | apply And.intro) <;> try first | (show okH _ _ _ = true; kernel_rfl) | omega | rfl | (simp <;> omega)
   refine awp_cond (b := true) (p := 2) (by simp [scal, h2] <;> omega) ?_
   refine awp_seqR fun K hK => ?_
   simp (disch := omega) [ints, rows, scal, wr64, wr8]
   (repeat' first | apply hK | apply And.intro) <;> try first | (show okH _ _ _ = true; kernel_rfl) | omega | rfl | (simp <;> omega)
   refine awp_ret ?_
   refine ⟨⟨.inr rfl, _, [], rfl, trivial, trivial, by simp [e], ?_⟩, by simp [e]⟩
   simp [e]
  ·have e : cmpI x y = 0 := by simp [cmpI, h1, h2]
   refine awp_seqR fun K hK => ?_
   simp (disch := omega) [ints, rows, scal, wr64, wr8, h2]
   (repeat' first | apply hK | apply And.intro) <;> try first | (show okH _ _ _ = true; kernel_rfl) | omega | rfl | (simp <;> omega)
   refine awp_cond (b := false) (p := 2) (by simp [scal, h2] <;> omega) ?_
   refine awp_skip ?_
   show awp _ _ _ _
   refine awp_seqR fun K hK => ?_
   simp (disch := omega) [ints, rows, scal, wr64, wr8]
   (repeat' first | apply hK | apply And.intro) <;> try first | (show okH _ _ _ = true; kernel_rfl) | omega | rfl | (simp <;> omega)
   refine awp_ret ?_
   refine ⟨⟨.inr rfl, _, [], rfl, trivial, trivial, by simp [e], ?_⟩, by simp [e]⟩
   simp [e]
def orL : List Int → Int
 | [] => 0
 | a :: r => if a = 0 then orL r else a
theorem orL_drop {xs : List Int} {i : Nat} (hi : i < xs.length) (h : orL xs = orL (xs.drop i)) : orL xs = if xs[i] = 0 then orL (xs.drop (i + 1)) else xs[i] := by
 rw [h, List.drop_eq_getElem_cons hi, orL]
set_option maxRecDepth 100000 in
theorem or_fn (xs : List Int) (hl : xs.length ≤ 1000) : FnA Tryd.prog 110 [.t 0 (ints xs)] (.t 2 (.int .i64 (orL xs))) := by
 refine fn_intro Tryd.func110 rfl (by simp [Tryd.f110]) ?_
 rw [show Tryd.f110.ntmps = 18 from rfl, show Tryd.f110.results = #[.tmp 2] from rfl]
 refine awp_seqR fun K hK => ?_
 simp (disch := omega) [ints, rows, scal, wr64, wr8]
 (repeat' first | apply hK | apply And.intro) <;> try first | (show okH _ _ _ = true; kernel_rfl) | omega | rfl | (simp <;> omega)
 refine awp_seqR fun K hK => ?_
 simp (disch := omega) [ints, rows, scal, wr64, wr8]
 (repeat' first | apply hK | apply And.intro) <;> try first | (show okH _ _ _ = true; kernel_rfl) | omega | rfl | (simp <;> omega)
 refine awp_seq ?_
 refine awp_seqR fun K hK => ?_
 simp (disch := omega) [ints, rows, scal, wr64, wr8]
 (repeat' first | apply hK | apply And.intro) <;> try first | (show okH _ _ _ = true; kernel_rfl) | omega | rfl | (simp <;> omega)
 refine awp_block ?_
 refine awp_loop (fun i : Nat => mkS [(3, .t 2 (.int .i64 0)), (6, .t 0 (ints xs)), (7, .t 2 (.int .i64 xs.length)), (8, .t 2 (.int .i64 i))] [] 0 18 [.any]) (fun i => i ≤ xs.length ∧ orL xs = orL (xs.drop i)) (fun i => xs.length - i) ?_ ?_
 ·refine ⟨0, ⟨by omega, by simp⟩, ?_⟩
  refine wk_list [] rfl ?_ ?_ ?_ ?_
  all_goals try simp [ints]
 rintro i ⟨hi, ho⟩
 refine awp_seqR fun K hK => ?_
 simp (disch := omega) [ints, rows, scal, wr64, wr8]
 (repeat' first | apply hK | apply And.intro) <;> try first | (show okH _ _ _ = true; kernel_rfl) | omega | rfl | (simp <;> omega)
 refine awp_seq ?_
 by_cases hil : i < xs.length
 ·have ho2 := orL_drop hil ho
  refine awp_cond (b := true) (p := 2) (by simp [scal, hil] <;> omega) ?_
  refine awp_skip ?_
  show awp _ _ _ _
  refine awp_seq ?_
  refine awp_block ?_
  refine awp_seqR fun K hK => ?_
  simp (disch := omega) [ints, rows, scal, wr64, wr8, hil]
  (repeat' first | apply hK | apply And.intro) <;> try first | (show okH _ _ _ = true; kernel_rfl) | omega | rfl | (simp <;> omega)
  by_cases hz : xs[i] = 0
  ·rw [if_pos hz] at ho2
   refine awp_seqR fun K hK => ?_
   simp (disch := omega) [ints, rows, scal, wr64, wr8, hz]
   (repeat' first | apply hK | apply And.intro) <;> try first | (show okH _ _ _ = true; kernel_rfl) | omega | rfl | (simp <;> omega)
   refine awp_cond (b := false) (p := 2) (by simp [scal, hz] <;> omega) ?_
   refine awp_skip ?_
   show awp _ _ _ _
   refine awp_R fun K hK => ?_
   simp (disch := omega) [ints, rows, scal, wr64, wr8]
   (repeat' first | apply hK | apply And.intro) <;> try first | (show okH _ _ _ = true; kernel_rfl) | omega | rfl | (simp <;> omega)
   refine ⟨i + 1, ⟨by omega, ho2⟩, by omega, ?_⟩
   refine wk_list [] rfl ?_ ?_ ?_ ?_
   all_goals try simp [ints]
  ·rw [if_neg hz] at ho2
   have hzb : (xs[i] != 0) = true := bne_iff_ne.2 hz
   refine awp_seqR fun K hK => ?_
   simp (disch := omega) [ints, rows, scal, wr64, wr8, hzb]
   (repeat' first | apply hK | apply And.intro) <;> try first | (show okH _ _ _ = true; kernel_rfl) | omega | rfl | (simp <;> omega)
   refine awp_cond (b := true) (p := 2) (by simp [scal, hz] <;> omega) ?_
   refine awp_seqR fun K hK => ?_
   simp (disch := omega) [ints, rows, scal, wr64, wr8]
   (repeat' first | apply hK | apply And.intro) <;> try first | (show okH _ _ _ = true; kernel_rfl) | omega | rfl | (simp <;> omega)
   refine awp_ret ?_
   refine ⟨⟨.inr rfl, _, [], rfl, trivial, trivial, by simp [ho2], ?_⟩, by simp [ho2]⟩
   simp [ho2]
 ·have hn : orL xs = 0 := by rw [ho, List.drop_of_length_le (by omega)]; rfl
  refine awp_cond (b := false) (p := 2) (by simp [scal, hil] <;> omega) ?_
  refine awp_exit ?_
  show awp _ _ _ _
  refine awp_seqR fun K hK => ?_
  simp (disch := omega) [ints, rows, scal, wr64, wr8]
  (repeat' first | apply hK | apply And.intro) <;> try first | (show okH _ _ _ = true; kernel_rfl) | omega | rfl | (simp <;> omega)
  refine awp_ret ?_
  refine ⟨⟨.inr rfl, _, [], rfl, trivial, trivial, by simp [hn], ?_⟩, by simp [hn]⟩
  simp [hn]
theorem rangeK_3 : List.range 3 = [0, 1, 2] := rfl
def cmpE (a b : Int × Int × Int) : Int := orL [cmpI a.1 b.1, cmpI a.2.1 b.2.1, cmpI a.2.2 b.2.2]
def edV (e : Int × Int × Int) : AV := .agg [.t 2 (.int .i64 e.1), .t 2 (.int .i64 e.2.1), .t 2 (.int .i64 e.2.2)]
set_option maxRecDepth 100000 in
set_option maxHeartbeats 4000000 in
theorem cmpEdges_fn (a b : Int × Int × Int) : FnA Tryd.prog 95 [edV a, edV b] (.t 2 (.int .i64 (cmpE a b))) := by
 have h1 := compare_fn a.1 b.1
 have h2 := compare_fn a.2.1 b.2.1
 have h3 := compare_fn a.2.2 b.2.2
 have h4 := or_fn [cmpI a.1 b.1, cmpI a.2.1 b.2.1, cmpI a.2.2 b.2.2] (by simp)
 have he : cmpE a b = orL [cmpI a.1 b.1, cmpI a.2.1 b.2.1, cmpI a.2.2 b.2.2] := rfl
 generalize orL [cmpI a.1 b.1, cmpI a.2.1 b.2.1, cmpI a.2.2 b.2.2] = r at h4 he
 generalize cmpI a.1 b.1 = c1 at h1 h4
 generalize cmpI a.2.1 b.2.1 = c2 at h2 h4
 generalize cmpI a.2.2 b.2.2 = c3 at h3 h4
 rw [he]
 refine fn_intro Tryd.func95 rfl (by simp [Tryd.f95]) ?_
 rw [show Tryd.f95.ntmps = 22 from rfl, show Tryd.f95.results = #[.tmp 4] from rfl]
 refine awp_seqR fun K hK => ?_
 simp (disch := omega) [ints, rows, scal, wr64, wr8, edV]
 (repeat' first | apply hK | apply And.intro) <;> try first | (show okH _ _ _ = true; kernel_rfl) | omega | rfl | (simp <;> omega)
 refine awp_seqD (by kernel_rfl) (fun K hK => ?_)
 simp (disch := omega) [ints, rows, scal, wr64, wr8, edV]
 (repeat' apply And.intro)
 all_goals (try omega)
 refine call_ruleD (caps := []) (h1) [] [] 2 rfl rfl rfl rfl (by kernel_rfl) (by simp) ?_ trivial trivial rfl trivial trivial (by simp) ?_
 ·simp [scal, rows, ints]
 simp (disch := omega) [ints, rows, scal, wr64, wr8]
 (repeat' apply And.intro)
 all_goals (try omega)
 refine call_ruleD (caps := []) (h2) [] [] 2 rfl rfl rfl rfl (by kernel_rfl) (by simp) ?_ trivial trivial rfl trivial trivial (by simp) ?_
 ·simp [scal, rows, ints]
 simp (disch := omega) [ints, rows, scal, wr64, wr8]
 (repeat' apply And.intro)
 all_goals (try omega)
 refine call_ruleD (caps := []) (h3) [] [] 2 rfl rfl rfl rfl (by kernel_rfl) (by simp) ?_ trivial trivial rfl trivial trivial (by simp) ?_
 ·simp [scal, rows, ints]
 simp (disch := omega) [ints, rows, scal, wr64, wr8, rangeK_3]
 (repeat' apply And.intro)
 all_goals (try omega)
 refine call_ruleD (caps := []) (h4) [] [] 2 rfl rfl rfl rfl (by kernel_rfl) (by simp) ?_ trivial trivial rfl trivial trivial (by simp) ?_
 ·simp [scal, rows, ints]
 simp (disch := omega) [ints, rows, scal, wr64, wr8]
 (repeat' first | apply hK | apply And.intro) <;> try first | (show chkD _ _ = true; kernel_rfl) | (show okH _ _ _ = true; kernel_rfl) | omega | rfl | (simp <;> omega)
 refine awp_ret ?_
 refine ⟨⟨.inr rfl, _, [], rfl, trivial, trivial, by simp [edV], ?_⟩, by simp [edV]⟩
 simp [edV]
end Go.Proofs.YtnffigeofdagfaaDoor.M
