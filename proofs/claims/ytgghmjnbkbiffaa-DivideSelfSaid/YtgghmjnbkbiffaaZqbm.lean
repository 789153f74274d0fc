/-
  Walk in my logic: the law DivideSelf.
-/
import Derived.Test.YtgghmjnbkbiffaaZqbk
import Derived.Test.YtgghmjnbkbiffaaZqbl
namespace Go.Proofs.Ytgghmjnbkbiffaa.M
open Go.RowKit
set_option linter.unusedVariables false
set_option linter.unusedSimpArgs false

set_option maxRecDepth 100000 in
set_option maxHeartbeats 8000000 in
theorem divideSelf_fn (l : List Int) : FnA Try.prog 12 [.t 1 (ints l)] (.t 2 (.bool true)) := by
  have hnew := new_fn l
  obtain ⟨xs, hxs⟩ : ∃ xs, xs = l.take 80 := ⟨_, rfl⟩
  have hl : xs.length ≤ 80 := by rw [hxs]; simp; omega
  rw [← hxs] at hnew
  obtain ⟨v1, b1, hv1, hb1, hN1⟩ := next_fn xs 0 2 (by omega) hl (by omega)
  have hv1 := hv1 (by omega)
  obtain ⟨res1, H1, ⟨tb, gens, b2, hG, hb2, rfl, rfl⟩, hT1⟩ := table23_fn xs b1 (1 + v1) hb1 hl (by omega)
  obtain ⟨res2, H2, ⟨u, ugens, b4, hG2, hb4, rfl, rfl⟩, hT2⟩ := table23_fn xs b2 1 hb2 hl (by omega)
  obtain ⟨ok1, ok2, ok3, ok4, ok5, ok6⟩ := hG.ok
  obtain ⟨uk1, uk2, uk3, uk4, uk5, uk6⟩ := hG2.ok
  have hpr : tb.length * u.length ≤ 27 * 27 := Nat.mul_le_mul ok6 uk6
  refine fn_intro Try.func12 rfl (by simp [Try.f12]) ?_
  rw [show Try.f12.ntmps = 87 from rfl, show Try.f12.results = #[.tmp 2] from rfl]
  refine awp_seqR (fun K hK => ?_)
  simp (maxSteps := 2000000) (disch := omega) [ints, rows, scal, wr64, wr8]
  (repeat' first | refine hK _ ?_ | apply And.intro) <;> clear hK K <;> try first | (show chkD _ _ = true; kernel_rfl) | omega | rfl | (simp; done) | (simp; omega)
  refine awp_seqR (fun K hK => ?_)
  simp (maxSteps := 2000000) (disch := omega) [ints, rows, scal, wr64, wr8]
  (repeat' apply And.intro)
  all_goals (try omega)
  refine call_rule (caps := []) (hnew) [] [2000000] 1 rfl rfl rfl rfl (by kernel_rfl) (by simp) ?_ ?_ (by simp) rfl (by simp) ⟨.inl ⟨by omega, by omega⟩, trivial⟩ (by simp [tpO]) ?_
  · simp [scal, rows, ints, tpO]
  · trivial
  simp (maxSteps := 2000000) (disch := omega) [ints, rows, scal, wr64, wr8, tpO]
  (repeat' first | refine hK _ ?_ | apply And.intro) <;> clear hK K <;> try first | (show chkD _ _ = true; kernel_rfl) | omega | rfl | (simp; done) | (simp; omega)
  refine awp_weak (σ' := mkS [(3, .ptr 0 0 2)] [(0, tpO 1 xs 0)] 1 87 [.any]) ?_ ?_
  · refine wk_list [(0, some 2000000)] rfl ?_ ?_ ?_ ?_
    all_goals try simp [ints, tpO, scal]
  refine awp_seqR (fun K hK => ?_)
  simp (maxSteps := 2000000) (disch := omega) [ints, rows, scal, wr64, wr8]
  (repeat' apply And.intro)
  all_goals (try omega)
  refine call_rule (caps := []) (hN1) [0] [0] 1 rfl rfl rfl rfl (by kernel_rfl) (by simp) ?_ ?_ (by simp) rfl (by simp) ⟨.inr ⟨rfl, 0, _, _, _, _, _, rfl, rfl, rfl, rfl, rfl⟩, trivial⟩ (by simp [tpO]) ?_
  · simp [scal, rows, ints, tpO]
  · simp [scal, rows, ints, tpO]
  simp (maxSteps := 2000000) (disch := omega) [ints, rows, scal, wr64, wr8]
  (repeat' apply And.intro)
  all_goals (try omega)
  refine call_rule (caps := []) (hT1) [0] [0] 1 rfl rfl rfl rfl (by kernel_rfl) (by simp) ?_ ?_ (by simp) rfl (by simp) ⟨.inr ⟨rfl, 0, _, _, _, _, _, rfl, rfl, rfl, rfl, rfl⟩, trivial⟩ (by simp [tpO]) ?_
  · simp [scal, rows, ints, tpO]
  · simp [scal, rows, ints, tpO]
  simp (maxSteps := 2000000) (disch := omega) [ints, rows, scal, wr64, wr8, tpO]
  (repeat' first | refine hK _ ?_ | apply And.intro) <;> clear hK K <;> try first | (show chkD _ _ = true; kernel_rfl) | omega | rfl | (simp; done) | (simp; omega)
  refine awp_seqR (fun K hK => ?_)
  simp (maxSteps := 2000000) (disch := omega) [ints, rows, scal, wr64, wr8]
  (repeat' apply And.intro)
  all_goals (try omega)
  refine call_rule (caps := []) (hT2) [0] [0] 1 rfl rfl rfl rfl (by kernel_rfl) (by simp) ?_ ?_ (by simp) rfl (by simp) ⟨.inr ⟨rfl, 0, _, _, _, _, _, rfl, rfl, rfl, rfl, rfl⟩, trivial⟩ (by simp [tpO]) ?_
  · simp [scal, rows, ints, tpO]
  · simp [scal, rows, ints, tpO]
  simp (maxSteps := 2000000) (disch := omega) [ints, rows, scal, wr64, wr8, tpO]
  (repeat' first | refine hK _ ?_ | apply And.intro) <;> clear hK K <;> try first | (show chkD _ _ = true; kernel_rfl) | omega | rfl | (simp; done) | (simp; omega)
  refine awp_seq ?_
  have hpi : (tb.length : Int) * (u.length : Int) = ((tb.length * u.length : Nat) : Int) := by simp
  by_cases hbig : 60 < tb.length * u.length
  · have hbg : (60 : Int) < (tb.length : Int) * (u.length : Int) := by omega
    refine awp_seqR (fun K hK => ?_)
    simp (maxSteps := 2000000) (disch := omega) [ints, rows, scal, wr64, wr8, hbg]
    (repeat' first | refine hK _ ?_ | apply And.intro) <;> clear hK K <;> try first | (show chkD _ _ = true; kernel_rfl) | omega | rfl | (simp; done) | (simp; omega)
    refine awp_cond (b := true) (p := 2) (by simp [scal, hbg] <;> omega) ?_
    refine awp_seqR (fun K hK => ?_)
    simp (maxSteps := 2000000) (disch := omega) [ints, rows, scal, wr64, wr8]
    (repeat' apply And.intro)
    all_goals (try omega)
    refine call_rule (caps := []) (known23_fn) [] [] 2 rfl rfl rfl rfl (by kernel_rfl) (by simp) ?_ trivial trivial rfl trivial trivial (by simp) ?_
    · simp [scal, rows, ints]
    simp (maxSteps := 2000000) (disch := omega) [ints, rows, scal, wr64, wr8]
    (repeat' first | refine hK _ ?_ | apply And.intro) <;> clear hK K <;> try first | (show chkD _ _ = true; kernel_rfl) | omega | rfl | (simp; done) | (simp; omega)
    refine awp_ret ?_
    refine ⟨⟨.inr rfl, _, [], rfl, trivial, trivial, by simp, ?_⟩, by simp⟩
    simp
  have hbg : ¬ (60 : Int) < (tb.length : Int) * (u.length : Int) := by omega
  refine awp_seqR (fun K hK => ?_)
  simp (maxSteps := 2000000) (disch := omega) [ints, rows, scal, wr64, wr8, hbg]
  (repeat' first | refine hK _ ?_ | apply And.intro) <;> clear hK K <;> try first | (show chkD _ _ = true; kernel_rfl) | omega | rfl | (simp; done) | (simp; omega)
  refine awp_cond (b := false) (p := 2) (by simp [scal, hbg] <;> omega) ?_
  refine awp_skip ?_
  show awp _ _ _ _
  refine awp_seqR (fun K hK => ?_)
  simp (maxSteps := 2000000) (disch := omega) [ints, rows, scal, wr64, wr8]
  (repeat' first | refine hK _ ?_ | apply And.intro) <;> clear hK K <;> try first | (show chkD _ _ = true; kernel_rfl) | omega | rfl | (simp; done) | (simp; omega)
  refine awp_seq ?_
  refine awp_seqR (fun K hK => ?_)
  simp (maxSteps := 2000000) (disch := omega) [ints, rows, scal, wr64, wr8]
  (repeat' first | refine hK _ ?_ | apply And.intro) <;> clear hK K <;> try first | (show chkD _ _ = true; kernel_rfl) | omega | rfl | (simp; done) | (simp; omega)
  refine awp_block ?_
  refine awp_loop (fun y : Nat × Nat × List Int => mkS [(3, .ptr 0 0 2), (4, .t 2 (rows tb)), (5, .t 2 (ints gens)), (6, .t 2 (rows u)), (8, .own 1 y.1), (39, .t 2 (ints gens)), (40, .t 2 (.int .i64 gens.length)), (41, .t 2 (.int .i64 y.1))] [(0, tpO 1 xs y.2.1), (1, .row 3 1 2 (y.2.2.map (.int .i64)))] 2 87 [.any]) (fun y => y.1 ≤ gens.length ∧ y.2.1 ≤ xs.length ∧ y.2.2.length = y.1 ∧ ∀ i, i < y.1 → ∃ v : Nat, v < u.length ∧ nthx y.2.2 i = ((nat_ gens i * u.length + v : Nat) : Int)) (fun y => gens.length - y.1) ?_ ?_
  · refine ⟨(0, b4, []), ⟨by simp, hb4, rfl, fun i hi => by simp at hi⟩, ?_⟩
    refine wk_list [(0, some 0), (1, none)] rfl ?_ ?_ ?_ ?_
    all_goals try simp [ints, rows, tpO]
  · rintro ⟨k, a1, f⟩ ⟨hk, ha1, hfl, hf⟩
    simp only at hk ha1 hfl hf
    refine awp_seqR (fun K hK => ?_)
    simp (maxSteps := 2000000) (disch := omega) [ints, rows, scal, wr64, wr8]
    (repeat' first | refine hK _ ?_ | apply And.intro) <;> clear hK K <;> try first | (show chkD _ _ = true; kernel_rfl) | omega | rfl | (simp; done) | (simp; omega)
    refine awp_seq ?_
    by_cases hkn : k < gens.length
    · obtain ⟨v, a2, hv, ha2, hN⟩ := next_fn xs a1 u.length ha1 hl (by omega)
      have hv := hv (by omega)
      obtain ⟨hgk, hgn⟩ := gens_get ok2 hkn
      have hms := mul_step (m := u.length) hgn
      refine awp_cond (b := true) (p := 2) (by simp [scal, hkn] <;> omega) ?_
      refine awp_skip ?_
      show awp _ _ _ _
      refine awp_seq ?_
      refine awp_block ?_
      refine awp_seqR (fun K hK => ?_)
      simp (maxSteps := 2000000) (disch := omega) [ints, rows, scal, wr64, wr8, hkn, hgk]
      (repeat' first | refine hK _ ?_ | apply And.intro) <;> clear hK K <;> try first | (show chkD _ _ = true; kernel_rfl) | omega | rfl | (simp; done) | (simp; omega)
      refine awp_R (fun K hK => ?_)
      simp (maxSteps := 2000000) (disch := omega) [ints, rows, scal, wr64, wr8]
      (repeat' apply And.intro)
      all_goals (try omega)
      refine call_rule (caps := []) (hN) [0] [0] 1 rfl rfl rfl rfl (by kernel_rfl) (by simp) ?_ ?_ (by simp) rfl (by simp) ⟨.inr ⟨rfl, 0, _, _, _, _, _, rfl, rfl, rfl, rfl, rfl⟩, trivial⟩ (by simp [tpO]) ?_
      · simp [scal, rows, ints, tpO]
      · simp [scal, rows, ints, tpO]
      simp (maxSteps := 2000000) (disch := omega) [ints, rows, scal, wr64, wr8, tpO]
      (repeat' first | refine hK _ ?_ | apply And.intro) <;> clear hK K <;> try first | (show chkD _ _ = true; kernel_rfl) | omega | rfl | (simp; done) | (simp; omega)
      show awp _ _ _ _
      refine awp_R (fun K hK => ?_)
      simp (maxSteps := 2000000) (disch := omega) [ints, rows, scal, wr64, wr8]
      (repeat' first | refine hK _ ?_ | apply And.intro) <;> clear hK K <;> try first | (show chkD _ _ = true; kernel_rfl) | omega | rfl | (simp; done) | (simp; omega)
      refine ⟨(k + 1, a2, f ++ [((nat_ gens k * u.length + v : Nat) : Int)]), ⟨by simp only; omega, ha2, by simp [hfl], fun i hi => ?_⟩, by simp only; omega, ?_⟩
      · simp only at hi ⊢
        by_cases e : i = k
        · refine ⟨v, by omega, ?_⟩
          rw [e, ← hfl]
          simp [nthx]
        · obtain ⟨w, hw, hw2⟩ := hf i (by omega)
          refine ⟨w, hw, ?_⟩
          rw [← hw2]
          simp [nthx, List.getElem?_append_left (show i < f.length by omega)]
      · refine wk_list [(0, some 0), (1, some 1)] rfl ?_ ?_ ?_ ?_
        all_goals try simp [ints, rows, tpO, scal, hfl]
    · obtain rfl : k = gens.length := by omega
      obtain ⟨A, B, E, -, -, hE, -, -, hM1, -⟩ := maps_fn tb gens tb gens (by omega) (by omega)
      rw [self_ok ok1 ok2] at hE
      subst hE
      have hdir := direct_fn tb u ok1 uk1 (by omega)
      obtain ⟨A2, B2, E2, -, -, hE2, -, -, hM2, -⟩ := maps_fn tb gens (dirT (tabOf tb) (tabOf u) tb.length u.length) f (by omega) (by simp; omega)
      rw [proj_ok ok1 ok2 uk1 (by omega) hfl hf] at hE2
      subst hE2
      refine awp_cond (b := false) (p := 2) (by simp [scal] <;> omega) ?_
      refine awp_exit ?_
      show awp _ _ _ _
      refine awp_seqR (fun K hK => ?_)
      simp (maxSteps := 2000000) (disch := omega) [ints, rows, scal, wr64, wr8]
      (repeat' apply And.intro)
      all_goals (try omega)
      refine call_rule (caps := []) (hM1) [] [] 2 rfl rfl rfl rfl (by kernel_rfl) (by simp) ?_ trivial trivial rfl trivial trivial (by simp) ?_
      · simp [scal, rows, ints]
      simp (maxSteps := 2000000) (disch := omega) [ints, rows, scal, wr64, wr8]
      (repeat' first | refine hK _ ?_ | apply And.intro) <;> clear hK K <;> try first | (show chkD _ _ = true; kernel_rfl) | omega | rfl | (simp; done) | (simp; omega)
      refine awp_seqR (fun K hK => ?_)
      simp (maxSteps := 2000000) (disch := omega) [ints, rows, scal, wr64, wr8]
      (repeat' apply And.intro)
      all_goals (try omega)
      refine call_rule (caps := []) (hdir) [] [] 2 rfl rfl rfl rfl (by kernel_rfl) (by simp) ?_ trivial trivial rfl trivial trivial (by simp) ?_
      · simp [scal, rows, ints]
      simp (maxSteps := 2000000) (disch := omega) [ints, rows, scal, wr64, wr8]
      (repeat' apply And.intro)
      all_goals (try omega)
      refine call_rule (caps := []) (hM2) [] [] 2 rfl rfl rfl rfl (by kernel_rfl) (by simp) ?_ trivial trivial rfl trivial trivial (by simp) ?_
      · simp [scal, rows, ints, hfl]
      simp (maxSteps := 2000000) (disch := omega) [ints, rows, scal, wr64, wr8]
      (repeat' first | refine hK _ ?_ | apply And.intro) <;> clear hK K <;> try first | (show chkD _ _ = true; kernel_rfl) | omega | rfl | (simp; done) | (simp; omega)
      refine awp_seqR (fun K hK => ?_)
      simp (maxSteps := 2000000) (disch := omega) [ints, rows, scal, wr64, wr8]
      (repeat' apply And.intro)
      all_goals (try omega)
      refine call_rule (caps := []) (known23_fn) [] [] 2 (by simp [scal, rows, ints]) rfl rfl rfl (by kernel_rfl) (by simp) ?_ trivial trivial rfl trivial trivial (by simp) ?_
      · simp [scal, rows, ints]
      simp (maxSteps := 2000000) (disch := omega) [ints, rows, scal, wr64, wr8]
      (repeat' first | refine hK _ ?_ | apply And.intro) <;> clear hK K <;> try first | (show chkD _ _ = true; kernel_rfl) | omega | rfl | (simp; done) | (simp; omega)
      refine awp_ret ?_
      refine ⟨⟨.inr rfl, _, [], rfl, trivial, trivial, by simp, ?_⟩, by simp⟩
      simp
end Go.Proofs.Ytgghmjnbkbiffaa.M
