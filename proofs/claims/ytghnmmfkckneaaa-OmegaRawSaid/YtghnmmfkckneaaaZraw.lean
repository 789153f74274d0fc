/-
  Walk in my logic: the law OmegaRaw.
-/
import Derived.Test.YtghnmmfkckneaaaZrat
import Derived.Test.YtghnmmfkckneaaaZrav
import Derived.Test.YtghnmmfkckneaaaZras
namespace Go.Proofs.Ytghnmmfkckneaaa.M
open Go.RowKit
set_option linter.unusedVariables false
set_option linter.unusedSimpArgs false

set_option maxRecDepth 100000 in
set_option maxHeartbeats 8000000 in
theorem omegaRaw_fn (a b : Tm) (tb : List (List Int)) (vs : List Int) : FnA Try.prog 6 [tmV 1 a, tmV 1 b, .t 1 (rows tb), .t 1 (ints vs)] (.t 2 (.bool true)) := by
  have hfa := few_fn 5 a (by omega)
  have hfb := few_fn 5 b (by omega)
  have hfr := fewRows_fn tb
  refine fn_intro Try.func6 rfl (by simp [Try.f6]) ?_
  rw [show Try.f6.ntmps = 88 from rfl, show Try.f6.results = #[.tmp 8] from rfl]
  refine awp_seqR (fun K hK => ?_)
  simp (maxSteps := 2000000) (disch := omega) [ints, rows, scal, wr64, wr8, tmV]
  (repeat' first | refine hK _ ?_ | apply And.intro) <;> clear hK K <;> try first | (show chkD _ _ = true; kernel_rfl) | omega | rfl | (simp; done) | (simp; omega)
  refine awp_weak (σ' := mkS [(2, .t 1 (rows tb)), (3, .t 1 (ints vs)), (4, .ptr 0 0 3), (5, .ptr 1 0 3)] [(0, teO' a), (1, teO' b)] 2 88 [.any, .any, .any, .any]) ?_ ?_
  · refine wk_list [(0, some 0), (1, some 1000000)] rfl ?_ ?_ ?_ ?_
    all_goals try simp [ints, tmV, teO', rows, ints]
  refine awp_seq ?_
  cases ea : fewB 5 a with
  | false =>
    rw [ea] at hfa
    refine awp_seqR (fun K hK => ?_)
    simp (maxSteps := 2000000) (disch := omega) [ints, rows, scal, wr64, wr8, teO', tsTerm]
    (repeat' apply And.intro)
    all_goals (try omega)
    refine call_rule (caps := []) (hfa) [] [] 2 rfl rfl rfl rfl (by kernel_rfl) (by simp) ?_ trivial trivial rfl trivial trivial (by simp) ?_
    · simp [scal, rows, ints, tmV]
    simp (maxSteps := 2000000) (disch := omega) [ints, rows, scal, wr64, wr8]
    (repeat' first | refine hK _ ?_ | apply And.intro) <;> clear hK K <;> try first | (show chkD _ _ = true; kernel_rfl) | omega | rfl | (simp; done) | (simp; omega)
    refine awp_cond (b := true) (p := 2) (by simp [scal] <;> omega) ?_
    refine awp_seqR (fun K hK => ?_)
    simp (maxSteps := 2000000) (disch := omega) [ints, rows, scal, wr64, wr8]
    (repeat' first | refine hK _ ?_ | apply And.intro) <;> clear hK K <;> try first | (show chkD _ _ = true; kernel_rfl) | omega | rfl | (simp; done) | (simp; omega)
    refine awp_ret ?_
    refine ⟨⟨.inr rfl, _, [], rfl, trivial, trivial, by simp [tmV], ?_⟩, by simp [tmV]⟩
    simp [tmV]
  | true =>
  rw [ea] at hfa
  cases eb : fewB 5 b with
  | false =>
    rw [eb] at hfb
    refine awp_seqR (fun K hK => ?_)
    simp (maxSteps := 2000000) (disch := omega) [ints, rows, scal, wr64, wr8, teO', tsTerm]
    (repeat' apply And.intro)
    all_goals (try omega)
    refine call_rule (caps := []) (hfa) [] [] 2 rfl rfl rfl rfl (by kernel_rfl) (by simp) ?_ trivial trivial rfl trivial trivial (by simp) ?_
    · simp [scal, rows, ints, tmV]
    simp (maxSteps := 2000000) (disch := omega) [ints, rows, scal, wr64, wr8, teO', tsTerm]
    (repeat' apply And.intro)
    all_goals (try omega)
    refine call_rule (caps := []) (hfb) [] [] 2 (by simp [scal, rows, ints, tmV]) rfl rfl rfl (by kernel_rfl) (by simp) ?_ trivial trivial rfl trivial trivial (by simp) ?_
    · simp [scal, rows, ints, tmV]
    simp (maxSteps := 2000000) (disch := omega) [ints, rows, scal, wr64, wr8]
    (repeat' first | refine hK _ ?_ | apply And.intro) <;> clear hK K <;> try first | (show chkD _ _ = true; kernel_rfl) | omega | rfl | (simp; done) | (simp; omega)
    refine awp_cond (b := true) (p := 2) (by simp [scal] <;> omega) ?_
    refine awp_seqR (fun K hK => ?_)
    simp (maxSteps := 2000000) (disch := omega) [ints, rows, scal, wr64, wr8]
    (repeat' first | refine hK _ ?_ | apply And.intro) <;> clear hK K <;> try first | (show chkD _ _ = true; kernel_rfl) | omega | rfl | (simp; done) | (simp; omega)
    refine awp_ret ?_
    refine ⟨⟨.inr rfl, _, [], rfl, trivial, trivial, by simp [tmV], ?_⟩, by simp [tmV]⟩
    simp [tmV]
  | true =>
  rw [eb] at hfb
  cases er : fewR tb with
  | false =>
    rw [er] at hfr
    refine awp_seqR (fun K hK => ?_)
    simp (maxSteps := 2000000) (disch := omega) [ints, rows, scal, wr64, wr8, teO', tsTerm]
    (repeat' apply And.intro)
    all_goals (try omega)
    refine call_rule (caps := []) (hfa) [] [] 2 rfl rfl rfl rfl (by kernel_rfl) (by simp) ?_ trivial trivial rfl trivial trivial (by simp) ?_
    · simp [scal, rows, ints, tmV]
    simp (maxSteps := 2000000) (disch := omega) [ints, rows, scal, wr64, wr8, teO', tsTerm]
    (repeat' apply And.intro)
    all_goals (try omega)
    refine call_rule (caps := []) (hfb) [] [] 2 (by simp [scal, rows, ints, tmV]) rfl rfl rfl (by kernel_rfl) (by simp) ?_ trivial trivial rfl trivial trivial (by simp) ?_
    · simp [scal, rows, ints, tmV]
    simp (maxSteps := 2000000) (disch := omega) [ints, rows, scal, wr64, wr8, rows]
    (repeat' apply And.intro)
    all_goals (try omega)
    refine call_rule (caps := []) (hfr) [] [] 2 (by simp [scal, rows, ints]) rfl rfl rfl (by kernel_rfl) (by simp) ?_ trivial trivial rfl trivial trivial (by simp) ?_
    · simp [scal, rows, ints]
    simp (maxSteps := 2000000) (disch := omega) [ints, rows, scal, wr64, wr8]
    (repeat' first | refine hK _ ?_ | apply And.intro) <;> clear hK K <;> try first | (show chkD _ _ = true; kernel_rfl) | omega | rfl | (simp; done) | (simp; omega)
    refine awp_cond (b := true) (p := 2) (by simp [scal] <;> omega) ?_
    refine awp_seqR (fun K hK => ?_)
    simp (maxSteps := 2000000) (disch := omega) [ints, rows, scal, wr64, wr8]
    (repeat' first | refine hK _ ?_ | apply And.intro) <;> clear hK K <;> try first | (show chkD _ _ = true; kernel_rfl) | omega | rfl | (simp; done) | (simp; omega)
    refine awp_ret ?_
    refine ⟨⟨.inr rfl, _, [], rfl, trivial, trivial, by simp [tmV], ?_⟩, by simp [tmV]⟩
    simp [tmV]
  | true =>
  rw [er] at hfr
  refine awp_seqR (fun K hK => ?_)
  simp (maxSteps := 2000000) (disch := omega) [ints, rows, scal, wr64, wr8, teO', tsTerm]
  (repeat' apply And.intro)
  all_goals (try omega)
  refine call_rule (caps := []) (hfa) [] [] 2 rfl rfl rfl rfl (by kernel_rfl) (by simp) ?_ trivial trivial rfl trivial trivial (by simp) ?_
  · simp [scal, rows, ints, tmV]
  simp (maxSteps := 2000000) (disch := omega) [ints, rows, scal, wr64, wr8, teO', tsTerm]
  (repeat' apply And.intro)
  all_goals (try omega)
  refine call_rule (caps := []) (hfb) [] [] 2 (by simp [scal, rows, ints, tmV]) rfl rfl rfl (by kernel_rfl) (by simp) ?_ trivial trivial rfl trivial trivial (by simp) ?_
  · simp [scal, rows, ints, tmV]
  simp (maxSteps := 2000000) (disch := omega) [ints, rows, scal, wr64, wr8, rows]
  (repeat' apply And.intro)
  all_goals (try omega)
  refine call_rule (caps := []) (hfr) [] [] 2 (by simp [scal, rows, ints]) rfl rfl rfl (by kernel_rfl) (by simp) ?_ trivial trivial rfl trivial trivial (by simp) ?_
  · simp [scal, rows, ints]
  simp (maxSteps := 2000000) (disch := omega) [ints, rows, scal, wr64, wr8, ints]
  (repeat' first | refine hK _ ?_ | apply And.intro) <;> clear hK K <;> try first | (show chkD _ _ = true; kernel_rfl) | omega | rfl | (simp; done) | (simp; omega)
  by_cases h10 : (10 : Int) < (vs.length : Int)
  · refine awp_cond (b := true) (p := 2) (by simp [scal, h10] <;> omega) ?_
    refine awp_seqR (fun K hK => ?_)
    simp (maxSteps := 2000000) (disch := omega) [ints, rows, scal, wr64, wr8]
    (repeat' first | refine hK _ ?_ | apply And.intro) <;> clear hK K <;> try first | (show chkD _ _ = true; kernel_rfl) | omega | rfl | (simp; done) | (simp; omega)
    refine awp_ret ?_
    refine ⟨⟨.inr rfl, _, [], rfl, trivial, trivial, by simp [tmV], ?_⟩, by simp [tmV]⟩
    simp [tmV]
  refine awp_cond (b := false) (p := 2) (by simp [scal, h10] <;> omega) ?_
  refine awp_skip ?_
  show awp _ _ _ _
  have hv1 := oValue_fn tb vs a (by omega)
  have hv2 := rValue_fn tb vs a (by omega)
  generalize valP tb vs a = x at hv1 hv2
  obtain ⟨xv, xe⟩ := x
  have hA1 := oValidate_fn a
  have hA2 := rValidate_fn a
  have hB1 := varsI_fn a b
  have hB2 := rVars_fn a b
  have hC1 := format_fn a
  have hC2 := rFormat_fn a
  have hD1 := formatId_fn a b
  have hD2 := rFormatId_fn a b
  generalize vTm a = g1 at hA1 hA2
  generalize varsI a b = g2 at hB1 hB2
  generalize fmtS a = g3 at hC1 hC2
  generalize idS a b = g4 at hD1 hD2
  refine awp_seqR (fun K hK => ?_)
  simp (maxSteps := 2000000) (disch := omega) [ints, rows, scal, wr64, wr8, teO', tsTerm]
  (repeat' first | refine hK _ ?_ | apply And.intro) <;> clear hK K <;> try first | (show chkD _ _ = true; kernel_rfl) | omega | rfl | (simp; done) | (simp; omega)
  refine awp_weak (σ' := mkS [(2, .t 1 (rows tb)), (3, .t 1 (ints vs)), (4, .ptr 0 0 3), (9, .ptr 1 0 6)] [(0, teO' a), (1, ibO a b)] 2 88 [.any, .any, .any, .any]) ?_ ?_
  · refine wk_list [(0, some 0), (1, some 21000002)] rfl ?_ ?_ ?_ ?_
    all_goals try simp [ints, teO', ibO, rows, ints]
  refine awp_seqR (fun K hK => ?_)
  simp (maxSteps := 2000000) (disch := omega) [ints, rows, scal, wr64, wr8, teO', tsTerm]
  (repeat' apply And.intro)
  all_goals (try omega)
  refine call_rule (caps := []) (hv1) [] [] 1 rfl rfl rfl rfl (by kernel_rfl) (by simp) ?_ ?_ (by simp) rfl (by simp) trivial (by simp [tmV, rows, ints]) ?_
  · simp [scal, rows, ints, tmV, rows, ints]
  · trivial
  simp (maxSteps := 2000000) (disch := omega) [ints, rows, scal, wr64, wr8, valV]
  (repeat' first | refine hK _ ?_ | apply And.intro) <;> clear hK K <;> try first | (show chkD _ _ = true; kernel_rfl) | omega | rfl | (simp; done) | (simp; omega)
  refine awp_seqR (fun K hK => ?_)
  simp (maxSteps := 2000000) (disch := omega) [ints, rows, scal, wr64, wr8, teO', tsTerm]
  (repeat' apply And.intro)
  all_goals (try omega)
  refine call_rule (caps := []) (hv2) [] [] 2 rfl rfl rfl rfl (by kernel_rfl) (by simp) ?_ trivial trivial rfl trivial trivial (by simp) ?_
  · simp [scal, rows, ints, tmV, rows, ints]
  simp (maxSteps := 2000000) (disch := omega) [ints, rows, scal, wr64, wr8, valV]
  (repeat' first | refine hK _ ?_ | apply And.intro) <;> clear hK K <;> try first | (show chkD _ _ = true; kernel_rfl) | omega | rfl | (simp; done) | (simp; omega)
  refine awp_weak (σ' := mkS [(4, .ptr 0 0 3), (9, .ptr 1 0 6), (10, .t 2 (.int .i64 xv)), (11, .t 2 (.int .i64 xe)), (12, .t 2 (.int .i64 xv)), (13, .t 2 (.int .i64 xe))] [(0, teO' a), (1, ibO a b)] 2 88 [.any, .any, .any, .any]) ?_ ?_
  · refine wk_list [(0, some 0), (1, some 1)] rfl ?_ ?_ ?_ ?_
    all_goals try simp [ints, teO', ibO]
  refine awp_seqD (by kernel_rfl) (fun K hK => ?_)
  simp (maxSteps := 2000000) (disch := omega) [ints, rows, scal, wr64, wr8, teO', ibO, tsTerm, tsIdent]
  (repeat' apply And.intro)
  all_goals (try omega)
  refine call_ruleD (caps := []) (hA1) [] [] 2 rfl rfl rfl rfl (by kernel_rfl) (by simp) ?_ trivial trivial rfl trivial trivial (by simp) ?_
  · simp [scal, rows, ints, tmV]
  simp (maxSteps := 2000000) (disch := omega) [ints, rows, scal, wr64, wr8, teO', ibO, tsTerm, tsIdent]
  (repeat' apply And.intro)
  all_goals (try omega)
  refine call_ruleD (caps := []) (hA2) [] [] 2 rfl rfl rfl rfl (by kernel_rfl) (by simp) ?_ trivial trivial rfl trivial trivial (by simp) ?_
  · simp [scal, rows, ints, tmV]
  simp (maxSteps := 2000000) (disch := omega) [ints, rows, scal, wr64, wr8, teO', ibO, tsTerm, tsIdent]
  (repeat' apply And.intro)
  all_goals (try omega)
  refine call_ruleD (caps := []) (hB1) [] [] 2 (by simp [scal, rows, ints, idV]) rfl rfl rfl (by kernel_rfl) (by simp) ?_ trivial trivial rfl trivial trivial (by simp) ?_
  · simp [scal, rows, ints, idV]
  simp (maxSteps := 2000000) (disch := omega) [ints, rows, scal, wr64, wr8, teO', ibO, tsTerm, tsIdent]
  (repeat' apply And.intro)
  all_goals (try omega)
  refine call_ruleD (caps := []) (hB2) [] [] 2 (by simp [scal, rows, ints, idV]) rfl rfl rfl (by kernel_rfl) (by simp) ?_ trivial trivial rfl trivial trivial (by simp) ?_
  · simp [scal, rows, ints, idV]
  simp (maxSteps := 2000000) (disch := omega) [ints, rows, scal, wr64, wr8, teO', ibO, tsTerm, tsIdent]
  (repeat' apply And.intro)
  all_goals (try omega)
  refine call_ruleD (caps := []) (hC1) [] [] 2 (by simp [scal, rows, ints, tmV]) rfl rfl rfl (by kernel_rfl) (by simp) ?_ trivial trivial rfl trivial trivial (by simp) ?_
  · simp [scal, rows, ints, tmV]
  simp (maxSteps := 2000000) (disch := omega) [ints, rows, scal, wr64, wr8, teO', ibO, tsTerm, tsIdent]
  (repeat' apply And.intro)
  all_goals (try omega)
  refine call_ruleD (caps := []) (hC2) [] [] 2 (by simp [scal, rows, ints, tmV]) rfl rfl rfl (by kernel_rfl) (by simp) ?_ trivial trivial rfl trivial trivial (by simp) ?_
  · simp [scal, rows, ints, tmV]
  simp (maxSteps := 2000000) (disch := omega) [ints, rows, scal, wr64, wr8, teO', ibO, tsTerm, tsIdent]
  (repeat' apply And.intro)
  all_goals (try omega)
  refine call_ruleD (caps := []) (hD1) [] [] 2 (by simp [scal, rows, ints, idV]) rfl rfl rfl (by kernel_rfl) (by simp) ?_ trivial trivial rfl trivial trivial (by simp) ?_
  · simp [scal, rows, ints, idV]
  simp (maxSteps := 2000000) (disch := omega) [ints, rows, scal, wr64, wr8, teO', ibO, tsTerm, tsIdent]
  (repeat' apply And.intro)
  all_goals (try omega)
  refine call_ruleD (caps := []) (hD2) [] [] 2 (by simp [scal, rows, ints, idV]) rfl rfl rfl (by kernel_rfl) (by simp) ?_ trivial trivial rfl trivial trivial (by simp) ?_
  · simp [scal, rows, ints, idV]
  simp (maxSteps := 2000000) (disch := omega) [ints, rows, scal, wr64, wr8, teO', ibO, tsTerm, tsIdent]
  (repeat' apply And.intro)
  all_goals (try omega)
  refine call_ruleD (caps := []) (known28_fn) [] [] 2 (by simp [scal, rows, ints]) rfl rfl rfl (by kernel_rfl) (by simp) ?_ trivial trivial rfl trivial trivial (by simp) ?_
  · simp [scal, rows, ints]
  simp (maxSteps := 2000000) (disch := omega) [ints, rows, scal, wr64, wr8]
  (repeat' first | refine hK _ ?_ | apply And.intro) <;> clear hK K <;> try first | (show chkD _ _ = true; kernel_rfl) | omega | rfl | (simp; done) | (simp; omega)
  refine awp_ret ?_
  refine ⟨⟨.inr rfl, _, [], rfl, trivial, trivial, by simp [tmV], ?_⟩, by simp [tmV]⟩
  simp [tmV]
end Go.Proofs.Ytghnmmfkckneaaa.M
