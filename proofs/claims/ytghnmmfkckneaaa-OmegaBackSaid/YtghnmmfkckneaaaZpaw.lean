/-
  Walk in my logic: the law OmegaBack.
-/
import Derived.Test.YtghnmmfkckneaaaZpar
import Derived.Test.YtghnmmfkckneaaaZpao
import Derived.Test.YtghnmmfkckneaaaZpav
namespace Go.Proofs.Ytghnmmfkckneaaa.M
open Go.RowKit
set_option linter.unusedVariables false
set_option linter.unusedSimpArgs false

set_option maxRecDepth 100000 in
set_option maxHeartbeats 8000000 in
theorem omegaBack_fn (l : List Int) : FnA Try.prog 5 [.t 1 (ints l)] (.t 2 (.bool true)) := by
  have hnew := new_fn l
  obtain ⟨xs, hxs⟩ : ∃ xs, xs = l.take 80 := ⟨_, rfl⟩
  have hl : xs.length ≤ 80 := by rw [hxs]; simp; omega
  rw [← hxs] at hnew
  obtain ⟨res, H', ⟨t, b, hok, htz, hb, rfl, rfl⟩, hT⟩ := term_made xs hl 6 (by omega) (by omega) 4 0 (by omega) (by omega)
  have htz : t.sz ≤ 121 := htz
  have hV := rValidate_fn t
  refine fn_intro Try.func5 rfl (by simp [Try.f5]) ?_
  rw [show Try.f5.ntmps = 44 from rfl, show Try.f5.results = #[.tmp 2] from rfl]
  refine awp_seqR (fun K hK => ?_)
  simp (maxSteps := 2000000) (disch := omega) [ints, rows, scal, wr64, wr8]
  (repeat' first | refine hK _ ?_ | apply And.intro) <;> clear hK K <;> try first | (show chkD _ _ = true; kernel_rfl) | omega | rfl | (simp; done) | (simp; omega)
  refine awp_seqR (fun K hK => ?_)
  simp (maxSteps := 2000000) (disch := omega) [ints, rows, scal, wr64, wr8]
  (repeat' apply And.intro)
  all_goals (try omega)
  refine call_rule (caps := []) (hnew) [] [2000000] 1 rfl rfl rfl rfl (by kernel_rfl) (by simp) ?_ ?_ (by simp) rfl (by simp) ⟨.inl ⟨by omega, by omega⟩, trivial⟩ (by simp [tpO]) ?_
  · simp [scal, rows, ints, tpO]
  · trivial
  simp (maxSteps := 2000000) (disch := omega) [ints, rows, scal, wr64, wr8, tpO]
  (repeat' first | refine hK _ ?_ | apply And.intro) <;> clear hK K <;> try first | (show chkD _ _ = true; kernel_rfl) | omega | rfl | (simp; done) | (simp; omega)
  refine awp_weak (σ' := mkS [(3, .ptr 0 0 2)] [(0, tpO 1 xs 0)] 1 44 [.any]) ?_ ?_
  · refine wk_list [(0, some 2000000)] rfl ?_ ?_ ?_ ?_
    all_goals try simp [ints, tpO, scal]
  refine awp_seqR (fun K hK => ?_)
  simp (maxSteps := 2000000) (disch := omega) [ints, rows, scal, wr64, wr8]
  (repeat' apply And.intro)
  all_goals (try omega)
  refine call_rule (caps := []) (hT) [0] [0] 1 rfl rfl rfl rfl (by kernel_rfl) (by simp) ?_ ?_ (by simp) rfl (by simp) ⟨.inr ⟨rfl, 0, _, _, _, _, _, rfl, rfl, rfl, rfl, rfl⟩, trivial⟩ (by simp [tpO]) ?_
  · simp [scal, rows, ints, tpO, tmV]
  · simp [scal, rows, ints, tpO, tmV]
  simp (maxSteps := 2000000) (disch := omega) [ints, rows, scal, wr64, wr8, tpO, tmV, tsTerm]
  (repeat' first | refine hK _ ?_ | apply And.intro) <;> clear hK K <;> try first | (show chkD _ _ = true; kernel_rfl) | omega | rfl | (simp; done) | (simp; omega)
  refine awp_weak (σ' := mkS [(4, .ptr 0 0 3)] [(0, teO' t)] 1 44 [.any]) ?_ ?_
  · refine wk_list [(0, some 2000001)] rfl ?_ ?_ ?_ ?_
    all_goals try simp [ints, tpO, teO', tsTerm]
  refine awp_seq ?_
  refine awp_seqR (fun K hK => ?_)
  simp (maxSteps := 2000000) (disch := omega) [ints, rows, scal, wr64, wr8, teO', tsTerm]
  (repeat' apply And.intro)
  all_goals (try omega)
  refine call_rule (caps := []) (hV) [] [] 2 rfl rfl rfl rfl (by kernel_rfl) (by simp) ?_ trivial trivial rfl trivial trivial (by simp) ?_
  · simp [scal, rows, ints, tmV]
  simp (maxSteps := 2000000) (disch := omega) [ints, rows, scal, wr64, wr8, teO', tsTerm]
  (repeat' first | refine hK _ ?_ | apply And.intro) <;> clear hK K <;> try first | (show chkD _ _ = true; kernel_rfl) | omega | rfl | (simp; done) | (simp; omega)
  by_cases e : t.val = true
  · have h0 : vTm t = 0 := by unfold vTm; rw [if_pos e]
    have hF := format_fn t
    have hP := parse_fn (fmtS t) (by have := fmtS_len t; omega)
    rw [par_fmt e] at hP
    have hS := rsame_fn t (by omega)
    refine awp_cond (b := false) (p := 2) (by simp [scal, h0] <;> omega) ?_
    refine awp_skip ?_
    show awp _ _ _ _
    refine awp_seqR (fun K hK => ?_)
    simp (maxSteps := 2000000) (disch := omega) [ints, rows, scal, wr64, wr8, teO', tsTerm]
    (repeat' apply And.intro)
    all_goals (try omega)
    refine call_rule (caps := []) (hF) [] [] 2 rfl rfl rfl rfl (by kernel_rfl) (by simp) ?_ trivial trivial rfl trivial trivial (by simp) ?_
    · simp [scal, rows, ints, tmV]
    simp (maxSteps := 2000000) (disch := omega) [ints, rows, scal, wr64, wr8, teO', tsTerm]
    (repeat' apply And.intro)
    all_goals (try omega)
    refine call_rule (caps := []) (hP) [] [] 2 rfl rfl rfl rfl (by kernel_rfl) (by simp) ?_ trivial trivial rfl trivial trivial (by simp) ?_
    · simp [scal, rows, ints, parV]
    simp (maxSteps := 2000000) (disch := omega) [ints, rows, scal, wr64, wr8, teO', tsTerm, parV, tmV]
    (repeat' first | refine hK _ ?_ | apply And.intro) <;> clear hK K <;> try first | (show chkD _ _ = true; kernel_rfl) | omega | rfl | (simp; done) | (simp; omega)
    refine awp_weak (σ' := mkS [(4, .ptr 0 0 3), (5, .ptr 1 0 3), (6, .t 2 (.int .i64 (-1))), (7, .t 2 (.int .i64 0))] [(0, teO' t), (1, teO' t)] 2 44 [.any]) ?_ ?_
    · refine wk_list [(0, some 0), (1, some 10000001)] rfl ?_ ?_ ?_ ?_
      all_goals try simp [ints, teO', tsTerm]
    refine awp_seqR (fun K hK => ?_)
    simp (maxSteps := 2000000) (disch := omega) [ints, rows, scal, wr64, wr8, teO', tsTerm]
    (repeat' apply And.intro)
    all_goals (try omega)
    refine call_rule (caps := []) (hS) [] [] 2 (by simp [scal, rows, ints, tmV]) rfl rfl rfl (by kernel_rfl) (by simp) ?_ trivial trivial rfl trivial trivial (by simp) ?_
    · simp [scal, rows, ints, tmV]
    simp (maxSteps := 2000000) (disch := omega) [ints, rows, scal, wr64, wr8, teO', tsTerm]
    (repeat' apply And.intro)
    all_goals (try omega)
    refine call_rule (caps := []) (known28_fn) [] [] 2 (by simp [scal, rows, ints]) rfl rfl rfl (by kernel_rfl) (by simp) ?_ trivial trivial rfl trivial trivial (by simp) ?_
    · simp [scal, rows, ints]
    simp (maxSteps := 2000000) (disch := omega) [ints, rows, scal, wr64, wr8]
    (repeat' first | refine hK _ ?_ | apply And.intro) <;> clear hK K <;> try first | (show chkD _ _ = true; kernel_rfl) | omega | rfl | (simp; done) | (simp; omega)
    refine awp_ret ?_
    refine ⟨⟨.inr rfl, _, [], rfl, trivial, trivial, by simp, ?_⟩, by simp⟩
    simp
  · have h0 : vTm t = 21 := by unfold vTm; rw [if_neg e]
    have hF := format_fn t
    have hf : fmtS t = ⟨#[]⟩ := by unfold fmtS; rw [if_neg e]
    rw [hf] at hF
    have hO := oValidate_fn t
    rw [h0] at hO
    refine awp_cond (b := true) (p := 2) (by simp [scal, h0] <;> omega) ?_
    refine awp_seqR (fun K hK => ?_)
    simp (maxSteps := 2000000) (disch := omega) [ints, rows, scal, wr64, wr8, teO', tsTerm]
    (repeat' apply And.intro)
    all_goals (try omega)
    refine call_rule (caps := []) (hO) [] [] 2 rfl rfl rfl rfl (by kernel_rfl) (by simp) ?_ trivial trivial rfl trivial trivial (by simp) ?_
    · simp [scal, rows, ints, tmV]
    simp (maxSteps := 2000000) (disch := omega) [ints, rows, scal, wr64, wr8, teO', tsTerm]
    (repeat' apply And.intro)
    all_goals (try omega)
    refine call_rule (caps := []) (hF) [] [] 2 (by simp [scal, rows, ints, tmV]) rfl rfl rfl (by kernel_rfl) (by simp) ?_ trivial trivial rfl trivial trivial (by simp) ?_
    · simp [scal, rows, ints, tmV]
    simp (maxSteps := 2000000) (disch := omega) [ints, rows, scal, wr64, wr8, teO', tsTerm]
    (repeat' first | refine hK _ ?_ | apply And.intro) <;> clear hK K <;> try first | (show chkD _ _ = true; kernel_rfl) | omega | rfl | (simp; done) | (simp; omega)
    refine awp_ret ?_
    refine ⟨⟨.inr rfl, _, [], rfl, trivial, trivial, by simp, ?_⟩, by simp⟩
    simp
end Go.Proofs.Ytghnmmfkckneaaa.M
