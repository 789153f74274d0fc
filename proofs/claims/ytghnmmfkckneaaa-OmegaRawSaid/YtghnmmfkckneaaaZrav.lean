/-
  Walks in my logic: the texts of terms of the reference (semigroupref28.format, Format, FormatIdentity).
-/
import Derived.Test.YtghnmmfkckneaaaZrau
import Derived.Test.YtghnmmfkckneaaaZraj
namespace Go.Proofs.Ytghnmmfkckneaaa.M
open Go.RowKit
set_option linter.unusedVariables false
set_option linter.unusedSimpArgs false

theorem toB_app (l r : List Int) : toB l ++ toB r = toB (l ++ r) := by
  rw [toB_eq, toB_eq, toB_eq]
  apply ByteArray.ext
  rw [ByteArray.data_append]
  simp
theorem toB_nil : (⟨#[]⟩ : ByteArray) = toB [] := rfl
theorem toB_40 : (⟨#[40]⟩ : ByteArray) = toB [40] := rfl
theorem toB_41 : (⟨#[41]⟩ : ByteArray) = toB [41] := rfl
theorem toB_49 : (⟨#[49]⟩ : ByteArray) = toB [49] := rfl
theorem toB_w1 : (⟨#[94, 40, 119, 45, 49, 41]⟩ : ByteArray) = toB [94, 40, 119, 45, 49, 41] := rfl
theorem toB_w : (⟨#[94, 119]⟩ : ByteArray) = toB [94, 119] := rfl
theorem toB_wp : (⟨#[94, 40, 119, 43]⟩ : ByteArray) = toB [94, 40, 119, 43] := rfl
theorem bytes1 (x : Int) : bytesT [.int .u8 x] = toB [x] := rfl
theorem name_ext {n : Int} (h0 : 0 ≤ n) (h1 : n < 6) : (⟨#[120, 121, 122, 117, 118, 116]⟩ : ByteArray).extract n.toNat (n + 1).toNat = toB [nameB n] := by
  obtain rfl | rfl | rfl | rfl | rfl | rfl : n = 0 ∨ n = 1 ∨ n = 2 ∨ n = 3 ∨ n = 4 ∨ n = 5 := by omega
  all_goals rfl
theorem names_sz : (⟨#[120, 121, 122, 117, 118, 116]⟩ : ByteArray).size = 6 := rfl
/-- The text of an argument from its text without brackets. -/
theorem fmt_in {a : Tm} (ho : a.ok = true) : a.fmt true = if a.op = 3 then 40 :: (a.fmt false ++ [41]) else a.fmt false := by
  by_cases h3 : a.op = 3
  · rw [if_pos h3, fmt_3 h3, fmt_3f h3]
  · rw [if_neg h3]
    rcases wf_cases (ok_parts ho).1 with ⟨h, -, -⟩ | ⟨h, -, -⟩ | ⟨h, -, -⟩ | ⟨h, -, -, b, e⟩
    · rw [fmt_1 h, fmt_1 h]
    · rw [fmt_2 h, fmt_2 h]
    · exact absurd h h3
    · rw [fmt_4 h e, fmt_4 h e]
set_option maxRecDepth 100000 in
set_option maxHeartbeats 8000000 in
theorem rformat_fn : ∀ t : Tm, t.ok = true → t.sz ≤ 100000 → FnA Try.prog 46 [tmV 0 t] (.t 2 (.str (toB (t.fmt false)))) := by
  intro t
  induction hsz : t.sz using Nat.strongRecOn generalizing t with
  | _ q ih =>
  intro ho hq
  have hsl := szL_ge t.args
  have hse := sz_eq t
  have hfl := fmt_len t false
  have hfL := fmtL_len t.args
  obtain ⟨hw, ha⟩ := ok_parts ho
  refine fn_intro Try.func46 rfl (by simp [Try.f46]) ?_
  rw [show Try.f46.ntmps = 79 from rfl, show Try.f46.results = #[.tmp 2] from rfl]
  refine awp_seqR (fun K hK => ?_)
  simp (maxSteps := 2000000) (disch := omega) [ints, rows, scal, wr64, wr8, tmV]
  (repeat' first | refine hK _ ?_ | apply And.intro) <;> clear hK K <;> try first | (show chkD _ _ = true; kernel_rfl) | omega | rfl | (simp; done) | (simp; omega)
  refine awp_weak (σ' := mkS [(1, .ptr 0 0 3)] [(0, teO' t)] 1 79 [.any]) ?_ ?_
  · refine wk_list [(0, some 0)] rfl ?_ ?_ ?_ ?_
    all_goals try simp [ints, tmV, teO']
  refine awp_seq ?_
  refine awp_seqR (fun K hK => ?_)
  simp (maxSteps := 2000000) (disch := omega) [ints, rows, scal, wr64, wr8, teO', tsTerm]
  (repeat' first | refine hK _ ?_ | apply And.intro) <;> clear hK K <;> try first | (show chkD _ _ = true; kernel_rfl) | omega | rfl | (simp; done) | (simp; omega)
  refine awp_block ?_
  refine awp_seqR (fun K hK => ?_)
  simp (maxSteps := 2000000) (disch := omega) [ints, rows, scal, wr64, wr8, teO']
  (repeat' first | refine hK _ ?_ | apply And.intro) <;> clear hK K <;> try first | (show chkD _ _ = true; kernel_rfl) | omega | rfl | (simp; done) | (simp; omega)
  rcases wf_cases hw with ⟨h, hn, e⟩ | ⟨h, h0, h1, e⟩ | ⟨h, hn, hl⟩ | ⟨h, hn, hn9, a, e⟩
  · refine awp_cond (b := true) (p := 2) (by simp [scal, h] <;> omega) ?_
    refine awp_seqR (fun K hK => ?_)
    simp (maxSteps := 2000000) (disch := omega) [ints, rows, scal, wr64, wr8, teO']
    (repeat' first | refine hK _ ?_ | apply And.intro) <;> clear hK K <;> try first | (show chkD _ _ = true; kernel_rfl) | omega | rfl | (simp; done) | (simp; omega)
    refine awp_ret ?_
    rw [fmt_1 h, ← toB_49]
    refine ⟨⟨.inr rfl, _, [], rfl, trivial, trivial, by simp [teO', tmV], ?_⟩, by simp [teO', tmV]⟩
    simp [teO', tmV]
  · have hx := name_ext h0 h1
    refine awp_cond (b := false) (p := 2) (by simp [scal, h] <;> omega) ?_
    refine awp_seqR (fun K hK => ?_)
    simp (maxSteps := 2000000) (disch := omega) [ints, rows, scal, wr64, wr8, teO', h]
    (repeat' first | refine hK _ ?_ | apply And.intro) <;> clear hK K <;> try first | (show chkD _ _ = true; kernel_rfl) | omega | rfl | (simp; done) | (simp; omega)
    refine awp_cond (b := true) (p := 2) (by simp [scal, h] <;> omega) ?_
    refine awp_seqR (fun K hK => ?_)
    simp (maxSteps := 2000000) (disch := omega) [ints, rows, scal, wr64, wr8, teO', tsTerm, h, hx, names_sz]
    (repeat' first | refine hK _ ?_ | apply And.intro) <;> clear hK K <;> try first | (show chkD _ _ = true; kernel_rfl) | omega | rfl | (simp; done) | (simp; omega)
    refine awp_ret ?_
    rw [fmt_2 h]
    refine ⟨⟨.inr rfl, _, [], rfl, trivial, trivial, by simp [teO', tmV], ?_⟩, by simp [teO', tmV]⟩
    simp [teO', tmV]
  · refine awp_cond (b := false) (p := 2) (by simp [scal, h] <;> omega) ?_
    refine awp_seqR (fun K hK => ?_)
    simp (maxSteps := 2000000) (disch := omega) [ints, rows, scal, wr64, wr8, teO', h]
    (repeat' first | refine hK _ ?_ | apply And.intro) <;> clear hK K <;> try first | (show chkD _ _ = true; kernel_rfl) | omega | rfl | (simp; done) | (simp; omega)
    refine awp_cond (b := false) (p := 2) (by simp [scal, h] <;> omega) ?_
    refine awp_seqR (fun K hK => ?_)
    simp (maxSteps := 2000000) (disch := omega) [ints, rows, scal, wr64, wr8, teO', h]
    (repeat' first | refine hK _ ?_ | apply And.intro) <;> clear hK K <;> try first | (show chkD _ _ = true; kernel_rfl) | omega | rfl | (simp; done) | (simp; omega)
    refine awp_cond (b := true) (p := 2) (by simp [scal, h] <;> omega) ?_
    refine awp_seqR (fun K hK => ?_)
    simp (maxSteps := 2000000) (disch := omega) [ints, rows, scal, wr64, wr8, teO']
    (repeat' first | refine hK _ ?_ | apply And.intro) <;> clear hK K <;> try first | (show chkD _ _ = true; kernel_rfl) | omega | rfl | (simp; done) | (simp; omega)
    refine awp_seq ?_
    refine awp_seqR (fun K hK => ?_)
    simp (maxSteps := 2000000) (disch := omega) [ints, rows, scal, wr64, wr8, teO', tsTerm]
    (repeat' first | refine hK _ ?_ | apply And.intro) <;> clear hK K <;> try first | (show chkD _ _ = true; kernel_rfl) | omega | rfl | (simp; done) | (simp; omega)
    refine awp_block ?_
    refine awp_loop (fun k : Nat => mkS [(3, .t 2 (.str (toB (fmtL (t.args.take k))))), (22, .t 0 (.sl 3 (cellsL t.args))), (23, .t 2 (.int .i64 t.args.length)), (24, .t 2 (.int .i64 k))] [] 0 79 [.any]) (fun k => k ≤ t.args.length) (fun k => t.args.length - k) ?_ ?_
    · refine ⟨0, by omega, ?_⟩
      refine wk_list [] rfl ?_ ?_ ?_ ?_
      all_goals try simp [ints, teO', fmtL, toB_nil]
    intro k hk
    refine awp_seqR (fun K hK => ?_)
    simp (maxSteps := 2000000) (disch := omega) [ints, rows, scal, wr64, wr8]
    (repeat' first | refine hK _ ?_ | apply And.intro) <;> clear hK K <;> try first | (show chkD _ _ = true; kernel_rfl) | omega | rfl | (simp; done) | (simp; omega)
    refine awp_seq ?_
    by_cases hkl : k < t.args.length
    · obtain ⟨a, hak⟩ : ∃ a, a = t.args[k] := ⟨_, rfl⟩
      have hcut := cellsL_cut t.args k hkl
      rw [← hak, Tm.cells_eq] at hcut
      have ham : a ∈ t.args := by rw [hak]; exact List.getElem_mem hkl
      have hlt := sz_arg ham
      have hA := ih a.sz (by omega) a rfl (ha a ham) (by omega)
      have hstep := take_fmt hkl
      rw [← hak, fmt_in (ha a ham)] at hstep
      have hla := fmt_len a false
      have hlt2 := fmtL_len (t.args.take k)
      have hlt3 : szL (t.args.take k) ≤ szL t.args := by
        rw [← List.take_append_drop k t.args, szL_app]
        simp
      refine awp_cond (b := true) (p := 2) (by simp [scal, hkl] <;> omega) ?_
      refine awp_skip ?_
      show awp _ _ _ _
      refine awp_seq ?_
      refine awp_block ?_
      refine awp_seqR (fun K hK => ?_)
      simp (maxSteps := 2000000) (disch := omega) [ints, rows, scal, wr64, wr8, hcut, hkl, tsTerm]
      (repeat' first | refine hK _ ?_ | apply And.intro) <;> clear hK K <;> try first | (show chkD _ _ = true; kernel_rfl) | omega | rfl | (simp; done) | (simp; omega)
      refine awp_seq ?_
      refine awp_R (fun K hK => ?_)
      simp (maxSteps := 2000000) (disch := omega) [ints, rows, scal, wr64, wr8, tsTerm]
      (repeat' first | refine hK _ ?_ | apply And.intro) <;> clear hK K <;> try first | (show chkD _ _ = true; kernel_rfl) | omega | rfl | (simp; done) | (simp; omega)
      by_cases h3 : a.op = 3
      · rw [if_pos h3] at hstep
        refine awp_cond (b := true) (p := 2) (by simp [scal, h3] <;> omega) ?_
        refine awp_R (fun K hK => ?_)
        simp (maxSteps := 2000000) (disch := omega) [ints, rows, scal, wr64, wr8, tsTerm]
        (repeat' apply And.intro)
        all_goals (try omega)
        refine call_rule (caps := []) (hA) [] [] 2 rfl rfl rfl rfl (by kernel_rfl) (by simp) ?_ trivial trivial rfl trivial trivial (by simp) ?_
        · simp [scal, rows, ints, tmV]
        simp (maxSteps := 2000000) (disch := omega) [ints, rows, scal, wr64, wr8, toB_40, toB_41, toB_app, toB_size]
        (repeat' first | refine hK _ ?_ | apply And.intro) <;> clear hK K <;> try first | (show chkD _ _ = true; kernel_rfl) | omega | rfl | (simp; done) | (simp; omega)
        show awp _ _ _ _
        refine awp_R (fun K hK => ?_)
        simp (maxSteps := 2000000) (disch := omega) [ints, rows, scal, wr64, wr8]
        (repeat' first | refine hK _ ?_ | apply And.intro) <;> clear hK K <;> try first | (show chkD _ _ = true; kernel_rfl) | omega | rfl | (simp; done) | (simp; omega)
        refine ⟨k + 1, by omega, by omega, ?_⟩
        refine wk_list [] rfl ?_ ?_ ?_ ?_
        all_goals try simp [ints, hstep]
      · rw [if_neg h3] at hstep
        refine awp_cond (b := false) (p := 2) (by simp [scal, h3] <;> omega) ?_
        refine awp_R (fun K hK => ?_)
        simp (maxSteps := 2000000) (disch := omega) [ints, rows, scal, wr64, wr8, tsTerm]
        (repeat' apply And.intro)
        all_goals (try omega)
        refine call_rule (caps := []) (hA) [] [] 2 rfl rfl rfl rfl (by kernel_rfl) (by simp) ?_ trivial trivial rfl trivial trivial (by simp) ?_
        · simp [scal, rows, ints, tmV]
        simp (maxSteps := 2000000) (disch := omega) [ints, rows, scal, wr64, wr8, toB_app, toB_size]
        (repeat' first | refine hK _ ?_ | apply And.intro) <;> clear hK K <;> try first | (show chkD _ _ = true; kernel_rfl) | omega | rfl | (simp; done) | (simp; omega)
        show awp _ _ _ _
        refine awp_R (fun K hK => ?_)
        simp (maxSteps := 2000000) (disch := omega) [ints, rows, scal, wr64, wr8]
        (repeat' first | refine hK _ ?_ | apply And.intro) <;> clear hK K <;> try first | (show chkD _ _ = true; kernel_rfl) | omega | rfl | (simp; done) | (simp; omega)
        refine ⟨k + 1, by omega, by omega, ?_⟩
        refine wk_list [] rfl ?_ ?_ ?_ ?_
        all_goals try simp [ints, hstep]
    · obtain rfl : k = t.args.length := by omega
      refine awp_cond (b := false) (p := 2) (by simp [scal] <;> omega) ?_
      refine awp_exit ?_
      show awp _ _ _ _
      refine awp_seqR (fun K hK => ?_)
      simp (maxSteps := 2000000) (disch := omega) [ints, rows, scal, wr64, wr8]
      (repeat' first | refine hK _ ?_ | apply And.intro) <;> clear hK K <;> try first | (show chkD _ _ = true; kernel_rfl) | omega | rfl | (simp; done) | (simp; omega)
      refine awp_ret ?_
      rw [fmt_3f h]
      refine ⟨⟨.inr rfl, _, [], rfl, trivial, trivial, by simp [tmV], ?_⟩, by simp [tmV]⟩
      simp [tmV]
  · have ham : a ∈ t.args := by rw [e]; simp
    have hlt := sz_arg ham
    have hA := ih a.sz (by omega) a rfl (ha a ham) (by omega)
    have hla := fmt_len a false
    have hin := fmt_in (ha a ham)
    have hlt1 := fmt_len a true
    rw [fmt_4 h e]
    refine awp_cond (b := false) (p := 2) (by simp [scal, h] <;> omega) ?_
    refine awp_seqR (fun K hK => ?_)
    simp (maxSteps := 2000000) (disch := omega) [ints, rows, scal, wr64, wr8, teO', h]
    (repeat' first | refine hK _ ?_ | apply And.intro) <;> clear hK K <;> try first | (show chkD _ _ = true; kernel_rfl) | omega | rfl | (simp; done) | (simp; omega)
    refine awp_cond (b := false) (p := 2) (by simp [scal, h] <;> omega) ?_
    refine awp_seqR (fun K hK => ?_)
    simp (maxSteps := 2000000) (disch := omega) [ints, rows, scal, wr64, wr8, teO', h]
    (repeat' first | refine hK _ ?_ | apply And.intro) <;> clear hK K <;> try first | (show chkD _ _ = true; kernel_rfl) | omega | rfl | (simp; done) | (simp; omega)
    refine awp_cond (b := false) (p := 2) (by simp [scal, h] <;> omega) ?_
    refine awp_skip ?_
    show awp _ _ _ _
    refine awp_seqR (fun K hK => ?_)
    simp (maxSteps := 2000000) (disch := omega) [ints, rows, scal, wr64, wr8, teO', e, cellsL, Tm.cells_eq, tsTerm]
    (repeat' apply And.intro)
    all_goals (try omega)
    refine call_rule (caps := []) (hA) [] [] 2 rfl rfl rfl rfl (by kernel_rfl) (by simp) ?_ trivial trivial rfl trivial trivial (by simp) ?_
    · simp [scal, rows, ints, tmV]
    simp (maxSteps := 2000000) (disch := omega) [ints, rows, scal, wr64, wr8]
    (repeat' first | refine hK _ ?_ | apply And.intro) <;> clear hK K <;> try first | (show chkD _ _ = true; kernel_rfl) | omega | rfl | (simp; done) | (simp; omega)
    refine awp_seq (awp_mono (Q := fun e σ => e = Exit.normal ∧ Wk σ (mkS [(1, .ptr 0 0 3), (6, .t 2 (.str (toB (a.fmt true))))] [(0, teO' t)] 1 79 [.any])) ?_ ?_)
    · refine awp_seqR (fun K hK => ?_)
      simp (maxSteps := 2000000) (disch := omega) [ints, rows, scal, wr64, wr8, teO', e, cellsL, Tm.cells_eq, tsTerm]
      (repeat' first | refine hK _ ?_ | apply And.intro) <;> clear hK K <;> try first | (show chkD _ _ = true; kernel_rfl) | omega | rfl | (simp; done) | (simp; omega)
      by_cases h3 : a.op = 3
      · rw [if_pos h3] at hin
        refine awp_cond (b := true) (p := 2) (by simp [scal, h3] <;> omega) ?_
        refine awp_R (fun K hK => ?_)
        simp (maxSteps := 2000000) (disch := omega) [ints, rows, scal, wr64, wr8, toB_40, toB_41, toB_app, toB_size]
        (repeat' first | refine hK _ ?_ | apply And.intro) <;> clear hK K <;> try first | (show chkD _ _ = true; kernel_rfl) | omega | rfl | (simp; done) | (simp; omega)
        refine wk_list [(0, some 0)] rfl ?_ ?_ ?_ ?_
        all_goals try simp [ints, hin, teO', e, h, cellsL, Tm.cells_eq]
      · rw [if_neg h3] at hin
        refine awp_cond (b := false) (p := 2) (by simp [scal, h3] <;> omega) ?_
        refine awp_skip ?_
        refine ⟨rfl, ?_⟩
        refine wk_list [(0, some 0)] rfl ?_ ?_ ?_ ?_
        all_goals try simp [ints, hin, teO', e, h, cellsL, Tm.cells_eq]
    rintro ex σ ⟨rfl, hwk⟩
    refine awp_weak hwk ?_
    clear hwk
    show awp _ _ _ _
    refine awp_seq ?_
    refine awp_block ?_
    refine awp_seqR (fun K hK => ?_)
    simp (maxSteps := 2000000) (disch := omega) [ints, rows, scal, wr64, wr8, teO', tsTerm]
    (repeat' first | refine hK _ ?_ | apply And.intro) <;> clear hK K <;> try first | (show chkD _ _ = true; kernel_rfl) | omega | rfl | (simp; done) | (simp; omega)
    by_cases hneg : t.n < 0
    · refine awp_cond (b := true) (p := 2) (by simp [scal, hneg] <;> omega) ?_
      refine awp_seqR (fun K hK => ?_)
      simp (maxSteps := 2000000) (disch := omega) [ints, rows, scal, wr64, wr8, toB_w1, toB_app, toB_size]
      (repeat' first | refine hK _ ?_ | apply And.intro) <;> clear hK K <;> try first | (show chkD _ _ = true; kernel_rfl) | omega | rfl | (simp; done) | (simp; omega)
      refine awp_ret ?_
      rw [show expB t.n = [94, 40, 119, 45, 49, 41] by unfold expB; rw [if_neg (by omega), if_pos hneg]]
      refine ⟨⟨.inr rfl, _, [], rfl, trivial, trivial, by simp [tmV], ?_⟩, by simp [tmV]⟩
      simp [tmV]
    by_cases hz : t.n = 0
    · refine awp_cond (b := false) (p := 2) (by simp [scal, hneg] <;> omega) ?_
      refine awp_seqR (fun K hK => ?_)
      simp (maxSteps := 2000000) (disch := omega) [ints, rows, scal, wr64, wr8, teO', tsTerm]
      (repeat' first | refine hK _ ?_ | apply And.intro) <;> clear hK K <;> try first | (show chkD _ _ = true; kernel_rfl) | omega | rfl | (simp; done) | (simp; omega)
      refine awp_cond (b := true) (p := 2) (by simp [scal, hz] <;> omega) ?_
      refine awp_seqR (fun K hK => ?_)
      simp (maxSteps := 2000000) (disch := omega) [ints, rows, scal, wr64, wr8, toB_w, toB_app, toB_size]
      (repeat' first | refine hK _ ?_ | apply And.intro) <;> clear hK K <;> try first | (show chkD _ _ = true; kernel_rfl) | omega | rfl | (simp; done) | (simp; omega)
      refine awp_ret ?_
      rw [show expB t.n = [94, 119] by unfold expB; rw [if_pos hz]]
      refine ⟨⟨.inr rfl, _, [], rfl, trivial, trivial, by simp [tmV], ?_⟩, by simp [tmV]⟩
      simp [tmV]
    · refine awp_cond (b := false) (p := 2) (by simp [scal, hneg] <;> omega) ?_
      refine awp_seqR (fun K hK => ?_)
      simp (maxSteps := 2000000) (disch := omega) [ints, rows, scal, wr64, wr8, teO', tsTerm]
      (repeat' first | refine hK _ ?_ | apply And.intro) <;> clear hK K <;> try first | (show chkD _ _ = true; kernel_rfl) | omega | rfl | (simp; done) | (simp; omega)
      refine awp_cond (b := false) (p := 2) (by simp [scal, hz] <;> omega) ?_
      refine awp_skip ?_
      show awp _ _ _ _
      refine awp_seqR (fun K hK => ?_)
      simp (maxSteps := 2000000) (disch := omega) [ints, rows, scal, wr64, wr8, teO', tsTerm, toB_wp, toB_41, toB_app, toB_size, bytes1]
      (repeat' first | refine hK _ ?_ | apply And.intro) <;> clear hK K <;> try first | (show chkD _ _ = true; kernel_rfl) | omega | rfl | (simp; done) | (simp; omega)
      refine awp_ret ?_
      rw [show expB t.n = [94, 40, 119, 43, 48 + t.n, 41] by unfold expB; rw [if_neg hz, if_neg hneg]]
      refine ⟨⟨.inr rfl, _, [], rfl, trivial, trivial, by simp [tmV], ?_⟩, by simp [tmV]⟩
      simp [tmV]
set_option maxRecDepth 100000 in
set_option maxHeartbeats 4000000 in
theorem rFormat_fn (t : Tm) : FnA Try.prog 28 [tmV 0 t] (.t 2 (.str (fmtS t))) := by
  have hv := rValidate_fn t
  refine fn_intro Try.func28 rfl (by simp [Try.f28]) ?_
  rw [show Try.f28.ntmps = 8 from rfl, show Try.f28.results = #[.tmp 2] from rfl]
  refine awp_seqR (fun K hK => ?_)
  simp (maxSteps := 2000000) (disch := omega) [ints, rows, scal, wr64, wr8, tmV]
  (repeat' first | refine hK _ ?_ | apply And.intro) <;> clear hK K <;> try first | (show chkD _ _ = true; kernel_rfl) | omega | rfl | (simp; done) | (simp; omega)
  refine awp_seq ?_
  refine awp_seqR (fun K hK => ?_)
  simp (maxSteps := 2000000) (disch := omega) [ints, rows, scal, wr64, wr8, tsTerm]
  (repeat' apply And.intro)
  all_goals (try omega)
  refine call_rule (caps := []) (hv) [] [] 2 rfl rfl rfl rfl (by kernel_rfl) (by simp) ?_ trivial trivial rfl trivial trivial (by simp) ?_
  · simp [scal, rows, ints, tmV]
  simp (maxSteps := 2000000) (disch := omega) [ints, rows, scal, wr64, wr8]
  (repeat' first | refine hK _ ?_ | apply And.intro) <;> clear hK K <;> try first | (show chkD _ _ = true; kernel_rfl) | omega | rfl | (simp; done) | (simp; omega)
  by_cases e : t.val = true
  · have h0 : vTm t = 0 := by unfold vTm; rw [if_pos e]
    have ha := rformat_fn t (val_ok e).1 (by have := (val_ok e).2; omega)
    have hf : toB (t.fmt false) = fmtS t := by unfold fmtS; rw [if_pos e]
    rw [hf] at ha
    refine awp_cond (b := false) (p := 2) (by simp [scal, h0] <;> omega) ?_
    refine awp_skip ?_
    show awp _ _ _ _
    refine awp_seqR (fun K hK => ?_)
    simp (maxSteps := 2000000) (disch := omega) [ints, rows, scal, wr64, wr8, tsTerm]
    (repeat' apply And.intro)
    all_goals (try omega)
    refine call_rule (caps := []) (ha) [] [] 2 rfl rfl rfl rfl (by kernel_rfl) (by simp) ?_ trivial trivial rfl trivial trivial (by simp) ?_
    · simp [scal, rows, ints, tmV]
    simp (maxSteps := 2000000) (disch := omega) [ints, rows, scal, wr64, wr8]
    (repeat' first | refine hK _ ?_ | apply And.intro) <;> clear hK K <;> try first | (show chkD _ _ = true; kernel_rfl) | omega | rfl | (simp; done) | (simp; omega)
    refine awp_ret ?_
    refine ⟨⟨.inr rfl, _, [], rfl, trivial, trivial, by simp [tmV], ?_⟩, by simp [tmV]⟩
    simp [tmV]
  · have h0 : vTm t = 21 := by unfold vTm; rw [if_neg e]
    have hf : fmtS t = ⟨#[]⟩ := by unfold fmtS; rw [if_neg e]
    refine awp_cond (b := true) (p := 2) (by simp [scal, h0] <;> omega) ?_
    refine awp_seqR (fun K hK => ?_)
    simp (maxSteps := 2000000) (disch := omega) [ints, rows, scal, wr64, wr8]
    (repeat' first | refine hK _ ?_ | apply And.intro) <;> clear hK K <;> try first | (show chkD _ _ = true; kernel_rfl) | omega | rfl | (simp; done) | (simp; omega)
    refine awp_ret ?_
    refine ⟨⟨.inr rfl, _, [], rfl, trivial, trivial, by simp [hf, tmV], ?_⟩, by simp [hf, tmV]⟩
    simp [hf, tmV]
set_option maxRecDepth 100000 in
set_option maxHeartbeats 4000000 in
theorem rFormatId_fn (a b : Tm) : FnA Try.prog 16 [idV 0 a b] (.t 2 (.str (idS a b))) := by
  have hv := rMay_fn a b
  have hl1 := fmtS_len a
  have hl2 := fmtS_len b
  have he : (⟨#[32, 61, 32]⟩ : ByteArray).size = 3 := rfl
  refine fn_intro Try.func16 rfl (by simp [Try.f16]) ?_
  rw [show Try.f16.ntmps = 14 from rfl, show Try.f16.results = #[.tmp 2] from rfl]
  refine awp_seqR (fun K hK => ?_)
  simp (maxSteps := 2000000) (disch := omega) [ints, rows, scal, wr64, wr8, idV]
  (repeat' first | refine hK _ ?_ | apply And.intro) <;> clear hK K <;> try first | (show chkD _ _ = true; kernel_rfl) | omega | rfl | (simp; done) | (simp; omega)
  refine awp_seq ?_
  refine awp_seqR (fun K hK => ?_)
  simp (maxSteps := 2000000) (disch := omega) [ints, rows, scal, wr64, wr8, tsIdent]
  (repeat' apply And.intro)
  all_goals (try omega)
  refine call_rule (caps := []) (hv) [] [] 2 rfl rfl rfl rfl (by kernel_rfl) (by simp) ?_ trivial trivial rfl trivial trivial (by simp) ?_
  · simp [scal, rows, ints, idV]
  simp (maxSteps := 2000000) (disch := omega) [ints, rows, scal, wr64, wr8]
  (repeat' first | refine hK _ ?_ | apply And.intro) <;> clear hK K <;> try first | (show chkD _ _ = true; kernel_rfl) | omega | rfl | (simp; done) | (simp; omega)
  by_cases e : a.val = true ∧ b.val = true
  · obtain ⟨e1, e2⟩ := e
    have h1 := rformat_fn a (val_ok e1).1 (by have := (val_ok e1).2; omega)
    have hf1 : toB (a.fmt false) = fmtS a := by unfold fmtS; rw [if_pos e1]
    rw [hf1] at h1
    have h2 := rformat_fn b (val_ok e2).1 (by have := (val_ok e2).2; omega)
    have hf2 : toB (b.fmt false) = fmtS b := by unfold fmtS; rw [if_pos e2]
    rw [hf2] at h2
    refine awp_cond (b := false) (p := 2) (by simp [scal, e1, e2] <;> omega) ?_
    refine awp_skip ?_
    show awp _ _ _ _
    refine awp_seqD (by kernel_rfl) (fun K hK => ?_)
    simp (maxSteps := 2000000) (disch := omega) [ints, rows, scal, wr64, wr8, tsIdent, tsTerm]
    (repeat' apply And.intro)
    all_goals (try omega)
    refine call_ruleD (caps := []) (h1) [] [] 2 rfl rfl rfl rfl (by kernel_rfl) (by simp) ?_ trivial trivial rfl trivial trivial (by simp) ?_
    · simp [scal, rows, ints, tmV]
    simp (maxSteps := 2000000) (disch := omega) [ints, rows, scal, wr64, wr8, he, ByteArray.size_append, tsIdent, tsTerm]
    (repeat' apply And.intro)
    all_goals (try omega)
    refine call_ruleD (caps := []) (h2) [] [] 2 rfl rfl rfl rfl (by kernel_rfl) (by simp) ?_ trivial trivial rfl trivial trivial (by simp) ?_
    · simp [scal, rows, ints, tmV]
    simp (maxSteps := 2000000) (disch := omega) [ints, rows, scal, wr64, wr8, he, ByteArray.size_append, tsIdent, tsTerm]
    (repeat' first | refine hK _ ?_ | apply And.intro) <;> clear hK K <;> try first | (show chkD _ _ = true; kernel_rfl) | omega | rfl | (simp; done) | (simp; omega)
    refine awp_ret ?_
    unfold idS
    rw [if_pos ⟨e1, e2⟩]
    refine ⟨⟨.inr rfl, _, [], rfl, trivial, trivial, by simp [eqB, idV], ?_⟩, by simp [eqB, idV]⟩
    simp [eqB, idV]
  · have h0 : a.val = false ∨ b.val = false := by
      cases h : a.val <;> cases h' : b.val <;> simp_all
    have hf : idS a b = ⟨#[]⟩ := by unfold idS; rw [if_neg e]
    refine awp_cond (b := true) (p := 2) (by simp [scal, h0] <;> omega) ?_
    refine awp_seqR (fun K hK => ?_)
    simp (maxSteps := 2000000) (disch := omega) [ints, rows, scal, wr64, wr8]
    (repeat' first | refine hK _ ?_ | apply And.intro) <;> clear hK K <;> try first | (show chkD _ _ = true; kernel_rfl) | omega | rfl | (simp; done) | (simp; omega)
    refine awp_ret ?_
    refine ⟨⟨.inr rfl, _, [], rfl, trivial, trivial, by simp [hf, tmV, idV], ?_⟩, by simp [hf, tmV, idV]⟩
    simp [hf, tmV, idV]
end Go.Proofs.Ytghnmmfkckneaaa.M
