/-
  Walk in my logic: the law OmegaChanges.
-/
import Derived.Test.YtghnmmfkckneaaaZpar
import Derived.Test.YtghnmmfkckneaaaZpax
import Derived.Test.YtghnmmfkckneaaaZpav
namespace Go.Proofs.Ytghnmmfkckneaaa.M
open Go.RowKit
set_option linter.unusedVariables false
set_option linter.unusedSimpArgs false

theorem idS_len (a b : Tm) : (idS a b).size ≤ 963 := by
  unfold idS
  split
  · have := fmtS_len a
    have := fmtS_len b
    rw [ByteArray.size_append, ByteArray.size_append]
    show _ + 3 + _ ≤ _
    omega
  · show 0 ≤ 963
    omega
theorem two_sz : (⟨#[32, 32]⟩ : ByteArray).size = 2 := rfl
set_option maxRecDepth 100000 in
set_option maxHeartbeats 8000000 in
theorem omegaChanges_fn (l : List Int) (at' c how : Int) (hc : 0 ≤ c ∧ c ≤ 255) : FnA Try.prog 4 [.t 1 (ints l), .t 2 (.int .i64 at'), .t 2 (.int .u8 c), .t 2 (.int .i64 how)] (.t 2 (.bool true)) := by
  have hnew := new_fn l
  obtain ⟨xs, hxs⟩ : ∃ xs, xs = l.take 80 := ⟨_, rfl⟩
  have hl : xs.length ≤ 80 := by rw [hxs]; simp; omega
  rw [← hxs] at hnew
  obtain ⟨res, H', ⟨t, b, hok, htz, hb, rfl, rfl⟩, hT⟩ := term_made xs hl 6 (by omega) (by omega) 3 0 (by omega) (by omega)
  obtain ⟨res2, H2, ⟨u, b2, hok2, htz2, hb2, rfl, rfl⟩, hT2⟩ := term_made xs hl 6 (by omega) (by omega) 3 b (by omega) (by omega)
  have hF := rFormatId_fn t u
  have hlen := idS_len t u
  obtain ⟨s, hs⟩ : ∃ s, s = idS t u := ⟨_, rfl⟩
  rw [← hs] at hF hlen
  refine fn_intro Try.func4 rfl (by simp [Try.f4]) ?_
  rw [show Try.f4.ntmps = 98 from rfl, show Try.f4.results = #[.tmp 8] from rfl]
  refine awp_seqR (fun K hK => ?_)
  simp (maxSteps := 2000000) (disch := omega) [ints, rows, scal, wr64, wr8]
  (repeat' first | refine hK _ ?_ | apply And.intro) <;> clear hK K <;> try first | (show chkD _ _ = true; kernel_rfl) | omega | rfl | (simp; done) | (simp; omega)
  refine awp_seqR (fun K hK => ?_)
  simp (maxSteps := 2000000) (disch := omega) [ints, rows, scal, wr64, wr8]
  (repeat' apply And.intro)
  all_goals (try omega)
  refine call_rule (caps := []) (hnew) [] [2000000] 1 rfl rfl rfl rfl (by kernel_rfl) (by simp) ?_ ?_ (by simp) rfl (by simp) ⟨.inl ⟨by omega, by omega⟩, trivial⟩ (by simp [tpO]) ?_
  · simp [scal, rows, ints, tpO]
  · trivial
  simp (maxSteps := 2000000) (disch := omega) [ints, rows, scal, wr64, wr8, tpO]
  (repeat' first | refine hK _ ?_ | apply And.intro) <;> clear hK K <;> try first | (show chkD _ _ = true; kernel_rfl) | omega | rfl | (simp; done) | (simp; omega)
  refine awp_weak (σ' := mkS [(1, .t 2 (.int .i64 at')), (2, .t 2 (.int .u8 c)), (3, .t 2 (.int .i64 how)), (9, .ptr 0 0 2)] [(0, tpO 1 xs 0)] 1 98 [.any, .any, .any, .any]) ?_ ?_
  · refine wk_list [(0, some 2000000)] rfl ?_ ?_ ?_ ?_
    all_goals try simp [ints, tpO, scal]
  refine awp_seqR (fun K hK => ?_)
  simp (maxSteps := 2000000) (disch := omega) [ints, rows, scal, wr64, wr8]
  (repeat' apply And.intro)
  all_goals (try omega)
  refine call_rule (caps := []) (hT) [0] [0] 1 rfl rfl rfl rfl (by kernel_rfl) (by simp) ?_ ?_ (by simp) rfl (by simp) ⟨.inr ⟨rfl, 0, _, _, _, _, _, rfl, rfl, rfl, rfl, rfl⟩, trivial⟩ (by simp [tpO]) ?_
  · simp [scal, rows, ints, tpO, tmV]
  · simp [scal, rows, ints, tpO, tmV]
  simp (maxSteps := 2000000) (disch := omega) [ints, rows, scal, wr64, wr8, tpO, tmV, tsTerm]
  (repeat' apply And.intro)
  all_goals (try omega)
  refine call_rule (caps := []) (hT2) [0] [0] 1 rfl rfl rfl rfl (by kernel_rfl) (by simp) ?_ ?_ (by simp) rfl (by simp) ⟨.inr ⟨rfl, 0, _, _, _, _, _, rfl, rfl, rfl, rfl, rfl⟩, trivial⟩ (by simp [tpO]) ?_
  · simp [scal, rows, ints, tpO, tmV]
  · simp [scal, rows, ints, tpO, tmV]
  simp (maxSteps := 2000000) (disch := omega) [ints, rows, scal, wr64, wr8, tpO, tmV, tsTerm]
  (repeat' apply And.intro)
  all_goals (try omega)
  refine call_rule (caps := []) (hF) [] [] 2 rfl rfl rfl rfl (by kernel_rfl) (by simp) ?_ trivial trivial rfl trivial trivial (by simp) ?_
  · simp [scal, rows, ints, idV]
  simp (maxSteps := 2000000) (disch := omega) [ints, rows, scal, wr64, wr8]
  (repeat' first | refine hK _ ?_ | apply And.intro) <;> clear hK K <;> try first | (show chkD _ _ = true; kernel_rfl) | omega | rfl | (simp; done) | (simp; omega)
  refine awp_weak (σ' := mkS [(1, .t 2 (.int .i64 at')), (2, .t 2 (.int .u8 c)), (3, .t 2 (.int .i64 how)), (10, .t 2 (.str s))] [] 0 98 [.any, .any, .any, .any]) ?_ ?_
  · refine wk_list [] rfl ?_ ?_ ?_ ?_
    all_goals try simp [ints]
  have hM1 := mod_fn at' ((s.size : Int) + 1) (by omega)
  have hr1 := modI_in (x := at') (n := (s.size : Int) + 1) (by omega)
  generalize modI at' ((s.size : Int) + 1) = k at hM1 hr1
  have hM2 := mod_fn how 4 (by omega)
  have hr2 := modI_in (x := how) (n := 4) (by omega)
  generalize modI how 4 = m at hM2 hr2
  refine awp_seqR (fun K hK => ?_)
  simp (maxSteps := 2000000) (disch := omega) [ints, rows, scal, wr64, wr8]
  (repeat' apply And.intro)
  all_goals (try omega)
  refine call_rule (caps := []) (hM1) [] [] 2 rfl rfl rfl rfl (by kernel_rfl) (by simp) ?_ trivial trivial rfl trivial trivial (by simp) ?_
  · simp [scal, rows, ints]
  simp (maxSteps := 2000000) (disch := omega) [ints, rows, scal, wr64, wr8]
  (repeat' first | refine hK _ ?_ | apply And.intro) <;> clear hK K <;> try first | (show chkD _ _ = true; kernel_rfl) | omega | rfl | (simp; done) | (simp; omega)
  refine awp_seq (awp_mono (Q := fun e σ => e = Exit.normal ∧ ∃ w : ByteArray, w.size ≤ 5000 ∧ Wk σ (mkS [(10, .t 2 (.str w))] [] 0 98 [.any, .any, .any, .any])) ?_ ?_)
  · refine awp_seqR (fun K hK => ?_)
    simp (maxSteps := 2000000) (disch := omega) [ints, rows, scal, wr64, wr8]
    (repeat' apply And.intro)
    all_goals (try omega)
    refine call_rule (caps := []) (hM2) [] [] 2 rfl rfl rfl rfl (by kernel_rfl) (by simp) ?_ trivial trivial rfl trivial trivial (by simp) ?_
    · simp [scal, rows, ints]
    simp (maxSteps := 2000000) (disch := omega) [ints, rows, scal, wr64, wr8]
    (repeat' first | refine hK _ ?_ | apply And.intro) <;> clear hK K <;> try first | (show chkD _ _ = true; kernel_rfl) | omega | rfl | (simp; done) | (simp; omega)
    refine awp_block ?_
    by_cases e0 : m = 0
    · refine awp_seqR (fun K hK => ?_)
      simp (maxSteps := 2000000) (disch := omega) [ints, rows, scal, wr64, wr8, e0]
      (repeat' first | refine hK _ ?_ | apply And.intro) <;> clear hK K <;> try first | (show chkD _ _ = true; kernel_rfl) | omega | rfl | (simp; done) | (simp; omega)
      refine awp_cond (b := true) (p := 2) (by simp [scal, e0] <;> omega) ?_
      refine awp_R (fun K hK => ?_)
      simp (maxSteps := 2000000) (disch := omega) [ints, rows, scal, wr64, wr8]
      (repeat' first | refine hK _ ?_ | apply And.intro) <;> clear hK K <;> try first | (show chkD _ _ = true; kernel_rfl) | omega | rfl | (simp; done) | (simp; omega)
      refine ⟨s.extract 0 k.toNat, by rw [ext_size]; omega, ?_⟩
      refine wk_list [] rfl ?_ ?_ ?_ ?_
      all_goals try simp [ints]
    refine awp_seqR (fun K hK => ?_)
    simp (maxSteps := 2000000) (disch := omega) [ints, rows, scal, wr64, wr8, e0]
    (repeat' first | refine hK _ ?_ | apply And.intro) <;> clear hK K <;> try first | (show chkD _ _ = true; kernel_rfl) | omega | rfl | (simp; done) | (simp; omega)
    refine awp_cond (b := false) (p := 2) (by simp [scal, e0] <;> omega) ?_
    by_cases e1 : m = 1
    · refine awp_seqR (fun K hK => ?_)
      simp (maxSteps := 2000000) (disch := omega) [ints, rows, scal, wr64, wr8, e1]
      (repeat' first | refine hK _ ?_ | apply And.intro) <;> clear hK K <;> try first | (show chkD _ _ = true; kernel_rfl) | omega | rfl | (simp; done) | (simp; omega)
      refine awp_cond (b := true) (p := 2) (by simp [scal, e1] <;> omega) ?_
      refine awp_RD (by kernel_rfl) (fun K hK => ?_)
      simp (maxSteps := 2000000) (disch := omega) [ints, rows, scal, wr64, wr8, ext_size, bytes1, toB_size, ByteArray.size_append]
      (repeat' first | refine hK _ ?_ | apply And.intro) <;> clear hK K <;> try first | (show chkD _ _ = true; kernel_rfl) | omega | rfl | (simp; done) | (simp; omega)
      refine ⟨s.extract 0 k.toNat ++ toB [c] ++ s.extract k.toNat s.size, by simp only [ByteArray.size_append, ext_size, toB_size, List.length_singleton]; omega, ?_⟩
      refine wk_list [] rfl ?_ ?_ ?_ ?_
      all_goals try simp [ints, bytes1]
    refine awp_seqR (fun K hK => ?_)
    simp (maxSteps := 2000000) (disch := omega) [ints, rows, scal, wr64, wr8, e1]
    (repeat' first | refine hK _ ?_ | apply And.intro) <;> clear hK K <;> try first | (show chkD _ _ = true; kernel_rfl) | omega | rfl | (simp; done) | (simp; omega)
    refine awp_cond (b := false) (p := 2) (by simp [scal, e1] <;> omega) ?_
    by_cases e2 : m = 2
    · refine awp_seqR (fun K hK => ?_)
      simp (maxSteps := 2000000) (disch := omega) [ints, rows, scal, wr64, wr8, e2]
      (repeat' first | refine hK _ ?_ | apply And.intro) <;> clear hK K <;> try first | (show chkD _ _ = true; kernel_rfl) | omega | rfl | (simp; done) | (simp; omega)
      refine awp_cond (b := true) (p := 2) (by simp [scal, e2] <;> omega) ?_
      refine awp_RD (by kernel_rfl) (fun K hK => ?_)
      simp (maxSteps := 2000000) (disch := omega) [ints, rows, scal, wr64, wr8, ext_size, two_sz, ByteArray.size_append]
      (repeat' first | refine hK _ ?_ | apply And.intro) <;> clear hK K <;> try first | (show chkD _ _ = true; kernel_rfl) | omega | rfl | (simp; done) | (simp; omega)
      refine ⟨s.extract 0 k.toNat ++ ⟨#[32, 32]⟩ ++ s.extract k.toNat s.size, by simp only [ByteArray.size_append, ext_size, two_sz]; omega, ?_⟩
      refine wk_list [] rfl ?_ ?_ ?_ ?_
      all_goals try simp [ints]
    refine awp_seqR (fun K hK => ?_)
    simp (maxSteps := 2000000) (disch := omega) [ints, rows, scal, wr64, wr8, e2]
    (repeat' first | refine hK _ ?_ | apply And.intro) <;> clear hK K <;> try first | (show chkD _ _ = true; kernel_rfl) | omega | rfl | (simp; done) | (simp; omega)
    refine awp_cond (b := false) (p := 2) (by simp [scal, e2] <;> omega) ?_
    refine awp_skip ?_
    refine ⟨rfl, s, by omega, ?_⟩
    refine wk_list [] rfl ?_ ?_ ?_ ?_
    all_goals try simp [ints]
  rintro e σ ⟨rfl, w, hws, hwk⟩
  refine awp_weak hwk ?_
  clear hwk
  show awp _ _ _ _
  have hI1 := parseId_fn w (by omega)
  have hI2 := rparseId_fn w (by omega)
  have hz2 := parI_sz w
  generalize parI w = y at hI1 hI2 hz2
  obtain ⟨ia, ib, ip, ie⟩ := y
  simp only at hz2
  have hS2 := rsame_fn ia (by omega)
  have hS3 := rsame_fn ib (by omega)
  refine awp_seqR (fun K hK => ?_)
  simp (maxSteps := 2000000) (disch := omega) [ints, rows, scal, wr64, wr8]
  (repeat' apply And.intro)
  all_goals (try omega)
  refine call_rule (caps := []) (hI1) [] [] 2 rfl rfl rfl rfl (by kernel_rfl) (by simp) ?_ trivial trivial rfl trivial trivial (by simp) ?_
  · simp [scal, rows, ints, pidV]
  simp (maxSteps := 2000000) (disch := omega) [ints, rows, scal, wr64, wr8, pidV, idV, tsIdent]
  (repeat' first | refine hK _ ?_ | apply And.intro) <;> clear hK K <;> try first | (show chkD _ _ = true; kernel_rfl) | omega | rfl | (simp; done) | (simp; omega)
  refine awp_weak (σ' := mkS [(10, .t 2 (.str w)), (12, .ptr 0 0 6), (13, .t 2 (.int .i64 ip)), (14, .t 2 (.int .i64 ie))] [(0, ibO ia ib)] 1 98 [.any, .any, .any, .any]) ?_ ?_
  · refine wk_list [(0, some 6000000)] rfl ?_ ?_ ?_ ?_
    all_goals try simp [ints, ibO, tsIdent]
  refine awp_seqR (fun K hK => ?_)
  simp (maxSteps := 2000000) (disch := omega) [ints, rows, scal, wr64, wr8]
  (repeat' apply And.intro)
  all_goals (try omega)
  refine call_rule (caps := []) (hI2) [] [] 2 rfl rfl rfl rfl (by kernel_rfl) (by simp) ?_ trivial trivial rfl trivial trivial (by simp) ?_
  · simp [scal, rows, ints, pidV]
  simp (maxSteps := 2000000) (disch := omega) [ints, rows, scal, wr64, wr8, pidV, idV, tsIdent]
  (repeat' first | refine hK _ ?_ | apply And.intro) <;> clear hK K <;> try first | (show chkD _ _ = true; kernel_rfl) | omega | rfl | (simp; done) | (simp; omega)
  refine awp_weak (σ' := mkS [(12, .ptr 0 0 6), (13, .t 2 (.int .i64 ip)), (14, .t 2 (.int .i64 ie)), (15, .ptr 1 0 6), (16, .t 2 (.int .i64 ip)), (17, .t 2 (.int .i64 ie))] [(0, ibO ia ib), (1, ibO ia ib)] 2 98 [.any, .any, .any, .any]) ?_ ?_
  · refine wk_list [(0, some 0), (1, some 6000001)] rfl ?_ ?_ ?_ ?_
    all_goals try simp [ints, ibO, tsIdent]
  refine awp_seqR (fun K hK => ?_)
  simp (maxSteps := 2000000) (disch := omega) [ints, rows, scal, wr64, wr8, ibO, tsTerm, tsIdent]
  (repeat' apply And.intro)
  all_goals (try omega)
  refine call_rule (caps := []) (hS2) [] [] 2 (by simp [scal, rows, ints, tmV]) rfl rfl rfl (by kernel_rfl) (by simp) ?_ trivial trivial rfl trivial trivial (by simp) ?_
  · simp [scal, rows, ints, tmV]
  simp (maxSteps := 2000000) (disch := omega) [ints, rows, scal, wr64, wr8, ibO, tsTerm, tsIdent]
  (repeat' apply And.intro)
  all_goals (try omega)
  refine call_rule (caps := []) (hS3) [] [] 2 (by simp [scal, rows, ints, tmV]) rfl rfl rfl (by kernel_rfl) (by simp) ?_ trivial trivial rfl trivial trivial (by simp) ?_
  · simp [scal, rows, ints, tmV]
  simp (maxSteps := 2000000) (disch := omega) [ints, rows, scal, wr64, wr8, ibO, tsTerm, tsIdent]
  (repeat' apply And.intro)
  all_goals (try omega)
  refine call_rule (caps := []) (known28_fn) [] [] 2 (by simp [scal, rows, ints]) rfl rfl rfl (by kernel_rfl) (by simp) ?_ trivial trivial rfl trivial trivial (by simp) ?_
  · simp [scal, rows, ints]
  simp (maxSteps := 2000000) (disch := omega) [ints, rows, scal, wr64, wr8]
  (repeat' first | refine hK _ ?_ | apply And.intro) <;> clear hK K <;> try first | (show chkD _ _ = true; kernel_rfl) | omega | rfl | (simp; done) | (simp; omega)
  refine awp_ret ?_
  refine ⟨⟨.inr rfl, _, [], rfl, trivial, trivial, by simp, ?_⟩, by simp⟩
  simp
end Go.Proofs.Ytghnmmfkckneaaa.M
