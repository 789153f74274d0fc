/-
  Walk in my logic: the law OmegaParses.
-/
import Derived.Test.YtghnmmfkckneaaaZpaj
import Derived.Test.YtghnmmfkckneaaaZpaq
namespace Go.Proofs.Ytghnmmfkckneaaa.M
open Go.RowKit
set_option linter.unusedVariables false
set_option linter.unusedSimpArgs false

theorem val_sz {t : Tm} (h : t.val = true) : t.sz ≤ 60 := (val_ok h).2
theorem zero_sz : Tm.zero.sz ≤ 60 := by decide
theorem parP_sz (s : ByteArray) : (parP s).1.sz ≤ 60 := by
  unfold parP
  split
  · exact zero_sz
  · split
    · exact zero_sz
    · split
      · rename_i h; exact val_sz h
      · exact zero_sz
theorem parI_sz (s : ByteArray) : (parI s).1.sz ≤ 60 ∧ (parI s).2.1.sz ≤ 60 := by
  unfold parI
  split
  · exact ⟨zero_sz, zero_sz⟩
  · split
    · exact ⟨zero_sz, zero_sz⟩
    · split
      · exact ⟨zero_sz, zero_sz⟩
      · split
        · rename_i h; exact ⟨val_sz h.1, val_sz h.2⟩
        · exact ⟨zero_sz, zero_sz⟩
def strsT (L : List ByteArray) : T := .sl 1 (L.map .str)
def byT (l : List Int) : T := .sl 1 (l.map (.int .u8))
theorem typ_sz : (⟨#[120, 121, 122, 117, 118, 116, 49, 40, 41, 94, 94, 119, 40, 119, 43, 49, 41, 40, 119, 45, 49, 41, 61, 32]⟩ : ByteArray).size = 24 := rfl
theorem ext_size (b : ByteArray) (i j : Nat) : (b.extract i j).size = min j b.size - i := ByteArray.size_extract
set_option maxRecDepth 100000 in
set_option maxHeartbeats 8000000 in
theorem omegaParses_fn (s : ByteArray) (l : List Int) (hlr : ∀ x ∈ l, 0 ≤ x ∧ x ≤ 255) : FnA Try.prog 3 [.t 2 (.str s), .t 1 (byT l)] (.t 2 (.bool true)) := by
  refine fn_intro Try.func3 rfl (by simp [Try.f3]) ?_
  rw [show Try.f3.ntmps = 121 from rfl, show Try.f3.results = #[.tmp 4] from rfl]
  refine awp_seqR (fun K hK => ?_)
  simp (maxSteps := 2000000) (disch := omega) [ints, rows, scal, wr64, wr8]
  (repeat' first | refine hK _ ?_ | apply And.intro) <;> clear hK K <;> try first | (show chkD _ _ = true; kernel_rfl) | omega | rfl | (simp; done) | (simp; omega)
  refine awp_seq ?_
  by_cases h1 : (1010 : Int) < (s.size : Int)
  · refine awp_seqR (fun K hK => ?_)
    simp (maxSteps := 2000000) (disch := omega) [ints, rows, scal, wr64, wr8, byT, h1]
    (repeat' first | refine hK _ ?_ | apply And.intro) <;> clear hK K <;> try first | (show chkD _ _ = true; kernel_rfl) | omega | rfl | (simp; done) | (simp; omega)
    refine awp_cond (b := true) (p := 2) (by simp [scal, h1] <;> omega) ?_
    refine awp_seqR (fun K hK => ?_)
    simp (maxSteps := 2000000) (disch := omega) [ints, rows, scal, wr64, wr8]
    (repeat' first | refine hK _ ?_ | apply And.intro) <;> clear hK K <;> try first | (show chkD _ _ = true; kernel_rfl) | omega | rfl | (simp; done) | (simp; omega)
    refine awp_ret ?_
    refine ⟨⟨.inr rfl, _, [], rfl, trivial, trivial, by simp, ?_⟩, by simp⟩
    simp
  refine awp_seqR (fun K hK => ?_)
  simp (maxSteps := 2000000) (disch := omega) [ints, rows, scal, wr64, wr8, byT, h1]
  (repeat' first | refine hK _ ?_ | apply And.intro) <;> clear hK K <;> try first | (show chkD _ _ = true; kernel_rfl) | omega | rfl | (simp; done) | (simp; omega)
  by_cases h2 : (60 : Int) < (l.length : Int)
  · refine awp_cond (b := true) (p := 2) (by simp [scal, h2] <;> omega) ?_
    refine awp_seqR (fun K hK => ?_)
    simp (maxSteps := 2000000) (disch := omega) [ints, rows, scal, wr64, wr8]
    (repeat' first | refine hK _ ?_ | apply And.intro) <;> clear hK K <;> try first | (show chkD _ _ = true; kernel_rfl) | omega | rfl | (simp; done) | (simp; omega)
    refine awp_ret ?_
    refine ⟨⟨.inr rfl, _, [], rfl, trivial, trivial, by simp, ?_⟩, by simp⟩
    simp
  refine awp_cond (b := false) (p := 2) (by simp [scal, h2] <;> omega) ?_
  refine awp_skip ?_
  show awp _ _ _ _
  refine awp_seqR (fun K hK => ?_)
  simp (maxSteps := 2000000) (disch := omega) [ints, rows, scal, wr64, wr8]
  (repeat' first | refine hK _ ?_ | apply And.intro) <;> clear hK K <;> try first | (show chkD _ _ = true; kernel_rfl) | omega | rfl | (simp; done) | (simp; omega)
  refine awp_seq ?_
  refine awp_seqR (fun K hK => ?_)
  simp (maxSteps := 2000000) (disch := omega) [ints, rows, scal, wr64, wr8]
  (repeat' first | refine hK _ ?_ | apply And.intro) <;> clear hK K <;> try first | (show chkD _ _ = true; kernel_rfl) | omega | rfl | (simp; done) | (simp; omega)
  refine awp_block ?_
  refine awp_loop (fun y : Nat × ByteArray => mkS [(0, .t 2 (.str s)), (5, .t 2 (.str y.2)), (30, .t 1 (byT l)), (31, .t 2 (.int .i64 (l.length : Nat))), (32, .t 2 (.int .i64 (y.1 : Nat)))] [] 0 121 [.any, .any]) (fun y => y.1 ≤ l.length ∧ y.2.size = y.1) (fun y => l.length - y.1) ?_ ?_
  · refine ⟨(0, ⟨#[]⟩), ⟨by omega, rfl⟩, ?_⟩
    refine wk_list [] rfl ?_ ?_ ?_ ?_
    all_goals try simp [ints, byT]
  rintro ⟨k, u⟩ ⟨hk, hu⟩
  simp only at hk hu
  refine awp_seqR (fun K hK => ?_)
  simp (maxSteps := 2000000) (disch := omega) [ints, rows, scal, wr64, wr8]
  (repeat' first | refine hK _ ?_ | apply And.intro) <;> clear hK K <;> try first | (show chkD _ _ = true; kernel_rfl) | omega | rfl | (simp; done) | (simp; omega)
  refine awp_seq ?_
  by_cases hkl : k < l.length
  · obtain ⟨hx0, hx1⟩ := hlr l[k] (List.getElem_mem hkl)
    refine awp_cond (b := true) (p := 2) (by simp [scal, hkl] <;> omega) ?_
    refine awp_skip ?_
    show awp _ _ _ _
    refine awp_seq ?_
    refine awp_block ?_
    refine awp_seqR (fun K hK => ?_)
    simp (maxSteps := 2000000) (disch := omega) [ints, rows, scal, wr64, wr8, byT, hkl]
    (repeat' first | refine hK _ ?_ | apply And.intro) <;> clear hK K <;> try first | (show chkD _ _ = true; kernel_rfl) | omega | rfl | (simp; done) | (simp; omega)
    have hm0 := Int.tmod_nonneg (a := l[k]) 24 hx0
    have hm1 := Int.tmod_lt_of_pos l[k] (show (0 : Int) < 24 by decide)
    obtain ⟨m, hm⟩ : ∃ m : Int, m = l[k].tmod 24 := ⟨_, rfl⟩
    rw [← hm] at hm0 hm1
    refine awp_R (fun K hK => ?_)
    simp (maxSteps := 2000000) (disch := omega) [ints, rows, scal, wr64, wr8, ← hm, typ_sz, ext_size]
    (repeat' first | refine hK _ ?_ | apply And.intro) <;> clear hK K <;> try first | (show chkD _ _ = true; kernel_rfl) | omega | rfl | (simp; done) | (simp; omega)
    obtain ⟨u2, hu2⟩ : ∃ u2 : ByteArray, u2 = u ++ (⟨#[120, 121, 122, 117, 118, 116, 49, 40, 41, 94, 94, 119, 40, 119, 43, 49, 41, 40, 119, 45, 49, 41, 61, 32]⟩ : ByteArray).extract m.toNat (m + 1).toNat := ⟨_, rfl⟩
    have hz : u2.size = k + 1 := by
      rw [hu2, ByteArray.size_append, ext_size, typ_sz]
      omega
    refine awp_weak (σ' := mkS [(0, .t 2 (.str s)), (5, .t 2 (.str u2)), (30, .t 1 (byT l)), (31, .t 2 (.int .i64 (l.length : Nat))), (32, .t 2 (.int .i64 (k : Nat)))] [] 0 121 [.any, .any]) ?_ ?_
    · refine wk_list [] rfl ?_ ?_ ?_ ?_
      all_goals try simp [ints, byT, hu2]
    show awp _ _ _ _
    refine awp_R (fun K hK => ?_)
    simp (maxSteps := 2000000) (disch := omega) [ints, rows, scal, wr64, wr8]
    (repeat' first | refine hK _ ?_ | apply And.intro) <;> clear hK K <;> try first | (show chkD _ _ = true; kernel_rfl) | omega | rfl | (simp; done) | (simp; omega)
    refine ⟨(k + 1, u2), ⟨by simp only; omega, hz⟩, by simp only; omega, ?_⟩
    refine wk_list [] rfl ?_ ?_ ?_ ?_
    all_goals try simp [ints]
  · obtain rfl : k = l.length := by omega
    refine awp_cond (b := false) (p := 2) (by simp [scal] <;> omega) ?_
    refine awp_exit ?_
    show awp _ _ _ _
    obtain ⟨L, hL⟩ : ∃ L, L = [s, u] := ⟨_, rfl⟩
    have hL2 : L.length = 2 := by rw [hL]; rfl
    have hLs : ∀ w ∈ L, w.size ≤ 1010 := by
      rw [hL]
      intro w hw
      simp only [List.mem_cons, List.not_mem_nil, or_false] at hw
      rcases hw with rfl | rfl <;> omega
    refine awp_seq ?_
    refine awp_seqR (fun K hK => ?_)
    simp (maxSteps := 2000000) (disch := omega) [ints, rows, scal, wr64, wr8]
    (repeat' first | refine hK _ ?_ | apply And.intro) <;> clear hK K <;> try first | (show chkD _ _ = true; kernel_rfl) | omega | rfl | (simp; done) | (simp; omega)
    refine awp_block ?_
    refine awp_loop (fun j : Nat => mkS [(49, .t 1 (strsT L)), (50, .t 2 (.int .i64 2)), (51, .t 2 (.int .i64 (j : Nat)))] [] 0 121 [.any, .any]) (fun j => j ≤ 2) (fun j => 2 - j) ?_ ?_
    · refine ⟨0, by omega, ?_⟩
      refine wk_list [] rfl ?_ ?_ ?_ ?_
      all_goals try simp [ints, strsT, hL]
    clear hL
    intro j hj
    refine awp_seqR (fun K hK => ?_)
    simp (maxSteps := 2000000) (disch := omega) [ints, rows, scal, wr64, wr8]
    (repeat' first | refine hK _ ?_ | apply And.intro) <;> clear hK K <;> try first | (show chkD _ _ = true; kernel_rfl) | omega | rfl | (simp; done) | (simp; omega)
    refine awp_seq ?_
    by_cases hjl : j < 2
    · obtain ⟨w, hw⟩ : ∃ w, w = L[j]'(by omega) := ⟨_, rfl⟩
      have hwL : L[j]? = some w := by rw [hw]; simp
      have hws : w.size ≤ 1010 := hLs w (by rw [hw]; exact List.getElem_mem _)
      have hP1 := parse_fn w (by omega)
      have hP2 := rparse_fn w (by omega)
      have hI1 := parseId_fn w (by omega)
      have hI2 := rparseId_fn w (by omega)
      have hz1 := parP_sz w
      have hz2 := parI_sz w
      generalize parP w = x at hP1 hP2 hz1
      generalize parI w = y at hI1 hI2 hz2
      obtain ⟨pt, pa, pe⟩ := x
      obtain ⟨ia, ib, ip, ie⟩ := y
      simp only at hz1 hz2
      have hS1 := rsame_fn pt (by omega)
      have hS2 := rsame_fn ia (by omega)
      have hS3 := rsame_fn ib (by omega)
      refine awp_cond (b := true) (p := 2) (by simp [scal, hjl] <;> omega) ?_
      refine awp_skip ?_
      show awp _ _ _ _
      refine awp_seq ?_
      refine awp_block ?_
      refine awp_seqR (fun K hK => ?_)
      simp (maxSteps := 2000000) (disch := omega) [ints, rows, scal, wr64, wr8, strsT, hwL, hL2]
      (repeat' first | refine hK _ ?_ | apply And.intro) <;> clear hK K <;> try first | (show chkD _ _ = true; kernel_rfl) | omega | rfl | (simp; done) | (simp; omega)
      refine awp_weak (σ' := mkS [(9, .t 2 (.str w)), (49, .t 1 (strsT L)), (50, .t 2 (.int .i64 2)), (51, .t 2 (.int .i64 (j : Nat)))] [] 0 121 [.any, .any]) ?_ ?_
      · refine wk_list [] rfl ?_ ?_ ?_ ?_
        all_goals try simp [ints, strsT, hw]
      refine awp_seqR (fun K hK => ?_)
      simp (maxSteps := 2000000) (disch := omega) [ints, rows, scal, wr64, wr8]
      (repeat' apply And.intro)
      all_goals (try omega)
      refine call_rule (caps := []) (hP1) [] [] 2 rfl rfl rfl rfl (by kernel_rfl) (by simp) ?_ trivial trivial rfl trivial trivial (by simp) ?_
      · simp [scal, rows, ints, parV]
      simp (maxSteps := 2000000) (disch := omega) [ints, rows, scal, wr64, wr8, parV, tmV, tsTerm]
      (repeat' first | refine hK _ ?_ | apply And.intro) <;> clear hK K <;> try first | (show chkD _ _ = true; kernel_rfl) | omega | rfl | (simp; done) | (simp; omega)
      refine awp_weak (σ' := mkS [(9, .t 2 (.str w)), (49, .t 1 (strsT L)), (50, .t 2 (.int .i64 2)), (51, .t 2 (.int .i64 (j : Nat))), (10, .ptr 0 0 3), (11, .t 2 (.int .i64 pa)), (12, .t 2 (.int .i64 pe))] [(0, teO' pt)] 1 121 [.any, .any]) ?_ ?_
      · refine wk_list [(0, some 6000000)] rfl ?_ ?_ ?_ ?_
        all_goals try simp [ints, teO', tsTerm, strsT]
      refine awp_seqR (fun K hK => ?_)
      simp (maxSteps := 2000000) (disch := omega) [ints, rows, scal, wr64, wr8]
      (repeat' apply And.intro)
      all_goals (try omega)
      refine call_rule (caps := []) (hP2) [] [] 2 rfl rfl rfl rfl (by kernel_rfl) (by simp) ?_ trivial trivial rfl trivial trivial (by simp) ?_
      · simp [scal, rows, ints, parV]
      simp (maxSteps := 2000000) (disch := omega) [ints, rows, scal, wr64, wr8, parV, tmV, tsTerm]
      (repeat' first | refine hK _ ?_ | apply And.intro) <;> clear hK K <;> try first | (show chkD _ _ = true; kernel_rfl) | omega | rfl | (simp; done) | (simp; omega)
      refine awp_weak (σ' := mkS [(9, .t 2 (.str w)), (49, .t 1 (strsT L)), (50, .t 2 (.int .i64 2)), (51, .t 2 (.int .i64 (j : Nat))), (10, .ptr 0 0 3), (11, .t 2 (.int .i64 pa)), (12, .t 2 (.int .i64 pe)), (13, .ptr 1 0 3), (14, .t 2 (.int .i64 pa)), (15, .t 2 (.int .i64 pe))] [(0, teO' pt), (1, teO' pt)] 2 121 [.any, .any]) ?_ ?_
      · refine wk_list [(0, some 0), (1, some 6000001)] rfl ?_ ?_ ?_ ?_
        all_goals try simp [ints, teO', tsTerm, strsT]
      refine awp_seqR (fun K hK => ?_)
      simp (maxSteps := 2000000) (disch := omega) [ints, rows, scal, wr64, wr8]
      (repeat' apply And.intro)
      all_goals (try omega)
      refine call_rule (caps := []) (hI1) [] [] 2 rfl rfl rfl rfl (by kernel_rfl) (by simp) ?_ trivial trivial rfl trivial trivial (by simp) ?_
      · simp [scal, rows, ints, pidV]
      simp (maxSteps := 2000000) (disch := omega) [ints, rows, scal, wr64, wr8, pidV, idV, tsIdent]
      (repeat' first | refine hK _ ?_ | apply And.intro) <;> clear hK K <;> try first | (show chkD _ _ = true; kernel_rfl) | omega | rfl | (simp; done) | (simp; omega)
      refine awp_weak (σ' := mkS [(9, .t 2 (.str w)), (49, .t 1 (strsT L)), (50, .t 2 (.int .i64 2)), (51, .t 2 (.int .i64 (j : Nat))), (10, .ptr 0 0 3), (11, .t 2 (.int .i64 pa)), (12, .t 2 (.int .i64 pe)), (13, .ptr 1 0 3), (14, .t 2 (.int .i64 pa)), (15, .t 2 (.int .i64 pe)), (16, .ptr 2 0 6), (17, .t 2 (.int .i64 ip)), (18, .t 2 (.int .i64 ie))] [(0, teO' pt), (1, teO' pt), (2, ibO ia ib)] 3 121 [.any, .any]) ?_ ?_
      · refine wk_list [(0, some 0), (1, some 1), (2, some 6000002)] rfl ?_ ?_ ?_ ?_
        all_goals try simp [ints, teO', ibO, tsTerm, strsT]
      refine awp_seqR (fun K hK => ?_)
      simp (maxSteps := 2000000) (disch := omega) [ints, rows, scal, wr64, wr8]
      (repeat' apply And.intro)
      all_goals (try omega)
      refine call_rule (caps := []) (hI2) [] [] 2 rfl rfl rfl rfl (by kernel_rfl) (by simp) ?_ trivial trivial rfl trivial trivial (by simp) ?_
      · simp [scal, rows, ints, pidV]
      simp (maxSteps := 2000000) (disch := omega) [ints, rows, scal, wr64, wr8, pidV, idV, tsIdent]
      (repeat' first | refine hK _ ?_ | apply And.intro) <;> clear hK K <;> try first | (show chkD _ _ = true; kernel_rfl) | omega | rfl | (simp; done) | (simp; omega)
      refine awp_weak (σ' := mkS [(9, .t 2 (.str w)), (49, .t 1 (strsT L)), (50, .t 2 (.int .i64 2)), (51, .t 2 (.int .i64 (j : Nat))), (10, .ptr 0 0 3), (11, .t 2 (.int .i64 pa)), (12, .t 2 (.int .i64 pe)), (13, .ptr 1 0 3), (14, .t 2 (.int .i64 pa)), (15, .t 2 (.int .i64 pe)), (16, .ptr 2 0 6), (17, .t 2 (.int .i64 ip)), (18, .t 2 (.int .i64 ie)), (19, .ptr 3 0 6), (20, .t 2 (.int .i64 ip)), (21, .t 2 (.int .i64 ie))] [(0, teO' pt), (1, teO' pt), (2, ibO ia ib), (3, ibO ia ib)] 4 121 [.any, .any]) ?_ ?_
      · refine wk_list [(0, some 0), (1, some 1), (2, some 2), (3, some 6000003)] rfl ?_ ?_ ?_ ?_
        all_goals try simp [ints, teO', ibO, tsTerm, strsT]
      refine awp_seqR (fun K hK => ?_)
      simp (maxSteps := 2000000) (disch := omega) [ints, rows, scal, wr64, wr8, teO', ibO, tsTerm, tsIdent]
      (repeat' apply And.intro)
      all_goals (try omega)
      refine call_rule (caps := []) (hS1) [] [] 2 (by simp [scal, rows, ints, tmV]) rfl rfl rfl (by kernel_rfl) (by simp) ?_ trivial trivial rfl trivial trivial (by simp) ?_
      · simp [scal, rows, ints, tmV]
      simp (maxSteps := 2000000) (disch := omega) [ints, rows, scal, wr64, wr8, teO', ibO, tsTerm, tsIdent]
      (repeat' apply And.intro)
      all_goals (try omega)
      refine call_rule (caps := []) (hS2) [] [] 2 (by simp [scal, rows, ints, tmV]) rfl rfl rfl (by kernel_rfl) (by simp) ?_ trivial trivial rfl trivial trivial (by simp) ?_
      · simp [scal, rows, ints, tmV]
      simp (maxSteps := 2000000) (disch := omega) [ints, rows, scal, wr64, wr8, teO', ibO, tsTerm, tsIdent]
      (repeat' apply And.intro)
      all_goals (try omega)
      refine call_rule (caps := []) (hS3) [] [] 2 (by simp [scal, rows, ints, tmV]) rfl rfl rfl (by kernel_rfl) (by simp) ?_ trivial trivial rfl trivial trivial (by simp) ?_
      · simp [scal, rows, ints, tmV]
      simp (maxSteps := 2000000) (disch := omega) [ints, rows, scal, wr64, wr8, teO', ibO, tsTerm, tsIdent]
      (repeat' first | refine hK _ ?_ | apply And.intro) <;> clear hK K <;> try first | (show chkD _ _ = true; kernel_rfl) | omega | rfl | (simp; done) | (simp; omega)
      refine awp_cond (b := false) (p := 2) (by simp [scal] <;> omega) ?_
      refine awp_skip ?_
      show awp _ _ _ _
      refine awp_R (fun K hK => ?_)
      simp (maxSteps := 2000000) (disch := omega) [ints, rows, scal, wr64, wr8]
      (repeat' first | refine hK _ ?_ | apply And.intro) <;> clear hK K <;> try first | (show chkD _ _ = true; kernel_rfl) | omega | rfl | (simp; done) | (simp; omega)
      refine ⟨j + 1, by omega, by omega, ?_⟩
      refine wk_list [] rfl ?_ ?_ ?_ ?_
      all_goals try simp [ints, strsT]
    · obtain rfl : j = 2 := by omega
      refine awp_cond (b := false) (p := 2) (by simp [scal] <;> omega) ?_
      refine awp_exit ?_
      show awp _ _ _ _
      refine awp_seqR (fun K hK => ?_)
      simp (maxSteps := 2000000) (disch := omega) [ints, rows, scal, wr64, wr8]
      (repeat' apply And.intro)
      all_goals (try omega)
      refine call_rule (caps := []) (known28_fn) [] [] 2 rfl rfl rfl rfl (by kernel_rfl) (by simp) ?_ trivial trivial rfl trivial trivial (by simp) ?_
      · simp [scal, rows, ints]
      simp (maxSteps := 2000000) (disch := omega) [ints, rows, scal, wr64, wr8]
      (repeat' first | refine hK _ ?_ | apply And.intro) <;> clear hK K <;> try first | (show chkD _ _ = true; kernel_rfl) | omega | rfl | (simp; done) | (simp; omega)
      refine awp_ret ?_
      refine ⟨⟨.inr rfl, _, [], rfl, trivial, trivial, by simp, ?_⟩, by simp⟩
      simp
end Go.Proofs.Ytghnmmfkckneaaa.M
