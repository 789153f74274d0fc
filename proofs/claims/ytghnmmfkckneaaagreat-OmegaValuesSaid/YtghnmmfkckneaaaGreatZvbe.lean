/-
  Walks in my logic: Value of layer 28, of the program and of its reference: both give the same.
-/
import Derived.Test.YtghnmmfkckneaaaGreatZvbc
import Derived.Test.YtghnmmfkckneaaaGreatZvbd
namespace Go.Proofs.YtghnmmfkckneaaaGreat.M
open Go.RowKit
set_option linter.unusedVariables false
set_option linter.unusedSimpArgs false

theorem rng_l1 : List.range 1 = [0] := rfl
theorem rng_l3 : List.range 3 = [0, 1, 2] := rfl
def vsF (vs : List Int) (i : Nat) : Nat := (vs.getD i 0).toNat
theorem vs_in {n : Nat} {vs : List Int} (h : inB n vs = true) : VIn n vs (vsF vs) := ⟨fun i hi => by
 obtain ⟨h0, h1⟩ := inB_inv h i hi
 have e : vs[i]? = some vs[i] := by simp [hi]
 have e2 : vsF vs i = vs[i].toNat := by unfold vsF; rw [List.getD_eq_getElem?_getD, e]; rfl
 rw [e2, e]
 exact ⟨by congr 1; omega, by omega⟩⟩
noncomputable def valP (tb : List (List Int)) (vs : List Int) (t : Tm) : Int × Int :=
 if vErr tb ≠ 0 then (0, vErr tb)
 else if t.val = false then (0, 21)
 else if inB tb.length vs = false ∨ vs.length < t.gr then (0, 1)
 else if idI (tabOf tb) tb.length < 0 ∧ t.has1 = true then (0, 9)
 else (((t.ev (tabOf tb) tb.length (idI (tabOf tb) tb.length).toNat (vsF vs) : Nat) : Int), 0)
def valV (x : Int × Int) : AV := .tup [.t 2 (.int .i64 x.1), .t 2 (.int .i64 x.2)]
theorem one_ok {T : Nat → Nat → Nat} {n : Nat} {t : Tm} (h : ¬ (idI T n < 0 ∧ t.has1 = true)) : t.has1 = true → idI T n = ((idI T n).toNat : Int) ∧ (idI T n).toNat < n := fun h1 => by
 rcases idI_rng T n with e | ⟨x, e, hx, -⟩
 ·exact absurd ⟨by omega, h1⟩ h
 ·rw [e]; exact ⟨rfl, hx⟩
set_option maxRecDepth 100000 in
set_option maxHeartbeats 8000000 in
theorem rValue_fn (tb : List (List Int)) (vs : List Int) (t : Tm) (hvs : vs.length ≤ 100000) : FnA Tryz.prog 20 [.t 0 (rows tb), .t 0 (ints vs), tmV 0 t] (valV (valP tb vs t)) := by
 have hV := valRef_fn tb
 have hT := rValidate_fn t
 unfold valP
 refine fn_intro Tryz.func20 rfl (by simp [Tryz.f20]) ?_
 rw [show Tryz.f20.ntmps = 42 from rfl, show Tryz.f20.results = #[.tmp 6, .tmp 7] from rfl]
 refine awp_seqR fun K hK => ?_
 simp (maxSteps := 2000000) (disch := omega) [ints, rows, scal, wr64, wr8, tmV]
 (repeat' first | apply hK | apply And.intro) <;> try first | omega | rfl | (simp <;> omega)
 refine awp_weak (σ' := mkS [(0, .t 0 (rows tb)), (1, .t 0 (ints vs)), (5, .ptr 0 0 3)] [(0, teO' t)] 1 42 [.any, .any, .any]) ?_ ?_
 ·refine wk_list [(0, some 0)] rfl ?_ ?_ ?_ ?_
  all_goals try simp [ints, tmV, teO', rows, ints]
 refine awp_seq ?_
 refine awp_seqR fun K hK => ?_
 simp (maxSteps := 2000000) (disch := omega) [ints, rows, scal, wr64, wr8]
 (repeat' apply And.intro)
 all_goals (try omega)
 refine call_rule (caps := []) (hV) [] [] 2 rfl rfl rfl rfl (by kernel_rfl) (by simp) ?_ trivial trivial rfl trivial trivial (by simp) ?_
 ·simp [scal, rows, ints, rows]
 simp (maxSteps := 2000000) (disch := omega) [ints, rows, scal, wr64, wr8]
 (repeat' first | apply hK | apply And.intro) <;> try first | omega | rfl | (simp <;> omega)
 refine awp_seqR fun K hK => ?_
 simp (maxSteps := 2000000) (disch := omega) [ints, rows, scal, wr64, wr8]
 (repeat' first | apply hK | apply And.intro) <;> try first | omega | rfl | (simp <;> omega)
 by_cases v1 : vErr tb = 0
 case neg =>
  rw [if_pos v1]
  refine awp_cond (b := true) (p := 2) (by simp [scal, v1] <;> omega) ?_
  refine awp_seqR fun K hK => ?_
  simp (maxSteps := 2000000) (disch := omega) [ints, rows, scal, wr64, wr8]
  (repeat' first | apply hK | apply And.intro) <;> try first | omega | rfl | (simp <;> omega)
  refine awp_ret ?_
  unfold valV
  refine ⟨⟨.inr rfl, _, [], rfl, trivial, trivial, by simp [tmV], ?_⟩, by simp [tmV]⟩
  simp [tmV]
 rw [if_neg (by omega)]
 obtain ⟨hl0, hl4⟩ := vErr_len v1
 refine awp_cond (b := false) (p := 2) (by simp [scal, v1] <;> omega) ?_
 refine awp_skip ?_
 show awp _ _ _ _
 refine awp_seq ?_
 refine awp_seqR fun K hK => ?_
 simp (maxSteps := 2000000) (disch := omega) [ints, rows, scal, wr64, wr8, teO', tsTerm]
 (repeat' apply And.intro)
 all_goals (try omega)
 refine call_rule (caps := []) (hT) [] [] 2 rfl rfl rfl rfl (by kernel_rfl) (by simp) ?_ trivial trivial rfl trivial trivial (by simp) ?_
 ·simp [scal, rows, ints, tmV]
 simp (maxSteps := 2000000) (disch := omega) [ints, rows, scal, wr64, wr8]
 (repeat' first | apply hK | apply And.intro) <;> try first | omega | rfl | (simp <;> omega)
 by_cases v2 : t.val = true
 case neg =>
  have e2 : t.val = false := by cases h : t.val <;> simp_all
  have h0 : vTm t = 21 := by unfold vTm; rw [if_neg v2]
  rw [if_pos e2]
  refine awp_cond (b := true) (p := 2) (by simp [scal, h0] <;> omega) ?_
  refine awp_seqR fun K hK => ?_
  simp (maxSteps := 2000000) (disch := omega) [ints, rows, scal, wr64, wr8]
  (repeat' first | apply hK | apply And.intro) <;> try first | omega | rfl | (simp <;> omega)
  refine awp_ret ?_
  unfold valV
  refine ⟨⟨.inr rfl, _, [], rfl, trivial, trivial, by simp [tmV], ?_⟩, by simp [tmV]⟩
  simp [tmV]
 have h0 : vTm t = 0 := by unfold vTm; rw [if_pos v2]
 obtain ⟨hok, hsz⟩ := val_ok v2
 rw [if_neg (by rw [v2]; decide)]
 have hIn := rIn_fn tb vs (by omega) (by omega)
 have hG := greatest_fn t hok (by omega)
 refine awp_cond (b := false) (p := 2) (by simp [scal, h0] <;> omega) ?_
 refine awp_skip ?_
 show awp _ _ _ _
 refine awp_seq ?_
 by_cases v3 : inB tb.length vs = true
 case neg =>
  have e3 : inB tb.length vs = false := by cases h : inB tb.length vs <;> simp_all
  rw [e3] at hIn
  rw [if_pos (.inl e3)]
  refine awp_seqR fun K hK => ?_
  simp (maxSteps := 2000000) (disch := omega) [ints, rows, scal, wr64, wr8, teO', tsTerm]
  (repeat' apply And.intro)
  all_goals (try omega)
  refine call_rule (caps := []) (hIn) [] [] 2 rfl rfl rfl rfl (by kernel_rfl) (by simp) ?_ trivial trivial rfl trivial trivial (by simp) ?_
  ·simp [scal, rows, ints, rows, ints]
  simp (maxSteps := 2000000) (disch := omega) [ints, rows, scal, wr64, wr8]
  (repeat' first | apply hK | apply And.intro) <;> try first | omega | rfl | (simp <;> omega)
  refine awp_cond (b := true) (p := 2) (by simp [scal] <;> omega) ?_
  refine awp_seqR fun K hK => ?_
  simp (maxSteps := 2000000) (disch := omega) [ints, rows, scal, wr64, wr8]
  (repeat' first | apply hK | apply And.intro) <;> try first | omega | rfl | (simp <;> omega)
  refine awp_ret ?_
  unfold valV
  refine ⟨⟨.inr rfl, _, [], rfl, trivial, trivial, by simp [tmV], ?_⟩, by simp [tmV]⟩
  simp [tmV]
 rw [v3] at hIn
 refine awp_seqR fun K hK => ?_
 simp (maxSteps := 2000000) (disch := omega) [ints, rows, scal, wr64, wr8, teO', tsTerm]
 (repeat' apply And.intro)
 all_goals (try omega)
 refine call_rule (caps := []) (hIn) [] [] 2 rfl rfl rfl rfl (by kernel_rfl) (by simp) ?_ trivial trivial rfl trivial trivial (by simp) ?_
 ·simp [scal, rows, ints, rows, ints]
 simp (maxSteps := 2000000) (disch := omega) [ints, rows, scal, wr64, wr8, teO', tsTerm]
 (repeat' apply And.intro)
 all_goals (try omega)
 refine call_rule (caps := []) (hG) [] [] 2 (by simp [scal, rows, ints, tmV]) rfl rfl rfl (by kernel_rfl) (by simp) ?_ trivial trivial rfl trivial trivial (by simp) ?_
 ·simp [scal, rows, ints, tmV]
 simp (maxSteps := 2000000) (disch := omega) [ints, rows, scal, wr64, wr8, ints]
 (repeat' first | apply hK | apply And.intro) <;> try first | omega | rfl | (simp <;> omega)
 by_cases v4 : vs.length < t.gr
 ·rw [if_pos (.inr v4)]
  refine awp_cond (b := true) (p := 2) (by simp [scal, v4] <;> omega) ?_
  refine awp_seqR fun K hK => ?_
  simp (maxSteps := 2000000) (disch := omega) [ints, rows, scal, wr64, wr8]
  (repeat' first | apply hK | apply And.intro) <;> try first | omega | rfl | (simp <;> omega)
  refine awp_ret ?_
  unfold valV
  refine ⟨⟨.inr rfl, _, [], rfl, trivial, trivial, by simp [tmV], ?_⟩, by simp [tmV]⟩
  simp [tmV]
 rw [if_neg (by
         rintro (h | h); · rw [v3] at h; cases h
         ·exact v4 h)]
 have ht := TbL.of v1
 have hId := rIdentity_fn tb tb.length (tabOf tb) ht (by omega)
 have hNe := needs_fn t (by omega)
 refine awp_cond (b := false) (p := 2) (by simp [scal, v4] <;> omega) ?_
 refine awp_skip ?_
 show awp _ _ _ _
 refine awp_seqR fun K hK => ?_
 simp (maxSteps := 2000000) (disch := omega) [ints, rows, scal, wr64, wr8]
 (repeat' apply And.intro)
 all_goals (try omega)
 refine call_rule (caps := []) (hId) [] [] 2 rfl rfl rfl rfl (by kernel_rfl) (by simp) ?_ trivial trivial rfl trivial trivial (by simp) ?_
 ·simp [scal, rows, ints, rows]
 simp (maxSteps := 2000000) (disch := omega) [ints, rows, scal, wr64, wr8]
 (repeat' first | apply hK | apply And.intro) <;> try first | omega | rfl | (simp <;> omega)
 have hrg := idI_rng (tabOf tb) tb.length
 have ho1 := fun h => one_ok (T := tabOf tb) (n := tb.length) (t := t) h
 generalize idI (tabOf tb) tb.length = one at hId hrg ho1 ⊢
 have hrg2 : one = -1 ∨ 0 ≤ one := by
  rcases hrg with h | ⟨x, h, -⟩ <;> omega
 clear hrg
 refine awp_weak (σ' := mkS [(0, .t 0 (rows tb)), (1, .t 0 (ints vs)), (5, .ptr 0 0 3), (9, .t 2 (.int .i64 one))] [(0, teO' t)] 1 42 [.any, .any, .any]) ?_ ?_
 ·refine wk_list [(0, some 0)] rfl ?_ ?_ ?_ ?_
  all_goals try simp [ints, tmV, teO', rows, ints]
 by_cases e6 : one < 0 ∧ t.has1 = true
 ·rw [if_pos e6]
  obtain rfl : one = -1 := by omega
  rw [e6.2] at hNe
  refine awp_seq ?_
  refine awp_seqR fun K hK => ?_
  simp (maxSteps := 2000000) (disch := omega) [ints, rows, scal, wr64, wr8, teO', tsTerm]
  (repeat' apply And.intro)
  all_goals (try omega)
  refine call_rule (caps := []) (hNe) [] [] 2 (by simp [scal, rows, ints, tmV]) rfl rfl rfl (by kernel_rfl) (by simp) ?_ trivial trivial rfl trivial trivial (by simp) ?_
  ·simp [scal, rows, ints, tmV]
  simp (maxSteps := 2000000) (disch := omega) [ints, rows, scal, wr64, wr8]
  (repeat' first | apply hK | apply And.intro) <;> try first | omega | rfl | (simp <;> omega)
  refine awp_cond (b := true) (p := 2) (by simp [scal] <;> omega) ?_
  refine awp_seqR fun K hK => ?_
  simp (maxSteps := 2000000) (disch := omega) [ints, rows, scal, wr64, wr8]
  (repeat' first | apply hK | apply And.intro) <;> try first | omega | rfl | (simp <;> omega)
  refine awp_ret ?_
  unfold valV
  refine ⟨⟨.inr rfl, _, [], rfl, trivial, trivial, by simp [tmV], ?_⟩, by simp [tmV]⟩
  simp [tmV]
 rw [if_neg e6]
 refine awp_seq (awp_mono (Q := fun e σ => e = Exit.normal ∧ Wk σ (mkS [(0, .t 0 (rows tb)), (1, .t 0 (ints vs)), (5, .ptr 0 0 3), (9, .t 2 (.int .i64 one))] [(0, teO' t)] 1 42 [.any, .any, .any])) ?_ ?_)
 ·by_cases e5 : one = -1
  ·subst e5
   have e7 : t.has1 = false := by
    cases h : t.has1 with
    | false => rfl
    | true => exact absurd ⟨by omega, h⟩ e6
   rw [e7] at hNe
   refine awp_seqR fun K hK => ?_
   simp (maxSteps := 2000000) (disch := omega) [ints, rows, scal, wr64, wr8, teO', tsTerm]
   (repeat' apply And.intro)
   all_goals (try omega)
   refine call_rule (caps := []) (hNe) [] [] 2 (by simp [scal, rows, ints, tmV]) rfl rfl rfl (by kernel_rfl) (by simp) ?_ trivial trivial rfl trivial trivial (by simp) ?_
   ·simp [scal, rows, ints, tmV]
   simp (maxSteps := 2000000) (disch := omega) [ints, rows, scal, wr64, wr8]
   (repeat' first | apply hK | apply And.intro) <;> try first | omega | rfl | (simp <;> omega)
   refine awp_cond (b := false) (p := 2) (by simp [scal] <;> omega) ?_
   refine awp_skip ?_
   refine ⟨rfl, ?_⟩
   refine wk_list [(0, some 0)] rfl ?_ ?_ ?_ ?_
   all_goals try simp [ints, teO', rows, ints]
  ·have e7 : (one == -1) = false := by simpa using e5
   refine awp_seqR fun K hK => ?_
   simp (maxSteps := 2000000) (disch := omega) [ints, rows, scal, wr64, wr8, e7]
   (repeat' first | apply hK | apply And.intro) <;> try first | omega | rfl | (simp <;> omega)
   refine awp_cond (b := false) (p := 2) (by simp [scal, e7] <;> omega) ?_
   refine awp_skip ?_
   refine ⟨rfl, ?_⟩
   refine wk_list [(0, some 0)] rfl ?_ ?_ ?_ ?_
   all_goals try simp [ints, teO', rows, ints]
 rintro e σ ⟨rfl, hwk⟩
 refine awp_weak hwk ?_
 clear hwk
 show awp _ _ _ _
 have hOf := rOf_fn (one := one) (o1 := one.toNat) tb ht (vErr_asc v1) (by omega) (vs_in v3) t hok (by omega) (by omega) (ho1 e6)
 refine awp_seqR fun K hK => ?_
 simp (maxSteps := 2000000) (disch := omega) [ints, rows, scal, wr64, wr8, teO', tsTerm]
 (repeat' apply And.intro)
 all_goals (try omega)
 refine call_rule (caps := []) (hOf) [] [] 2 rfl rfl rfl rfl (by kernel_rfl) (by simp) ?_ trivial trivial rfl trivial trivial (by simp) ?_
 ·simp [scal, rows, ints, tmV, rows, ints]
 simp (maxSteps := 2000000) (disch := omega) [ints, rows, scal, wr64, wr8]
 (repeat' first | apply hK | apply And.intro) <;> try first | omega | rfl | (simp <;> omega)
 refine awp_ret ?_
 unfold valV
 refine ⟨⟨.inr rfl, _, [], rfl, trivial, trivial, by simp [tmV], ?_⟩, by simp [tmV]⟩
 simp [tmV]
set_option maxRecDepth 100000 in
set_option maxHeartbeats 8000000 in
theorem oValue_fn (tb : List (List Int)) (vs : List Int) (t : Tm) (hvs : vs.length ≤ 100000) : FnA Tryz.prog 19 [.t 1 (rows tb), .t 0 (ints vs), tmV 0 t] (valV (valP tb vs t)) := by
 have hV := mulVal_fn tb
 have hT := oValidate_fn t
 unfold valP
 refine fn_intro Tryz.func19 rfl (by simp [Tryz.f19]) ?_
 rw [show Tryz.f19.ntmps = 61 from rfl, show Tryz.f19.results = #[.tmp 6, .tmp 7] from rfl]
 refine awp_seqR fun K hK => ?_
 simp (maxSteps := 2000000) (disch := omega) [ints, rows, scal, wr64, wr8, tmV]
 (repeat' first | apply hK | apply And.intro) <;> try first | omega | rfl | (simp <;> omega)
 refine awp_weak (σ' := mkS [(0, .t 1 (rows tb)), (1, .t 0 (ints vs)), (5, .ptr 0 0 3)] [(0, teO' t)] 1 61 [.any, .any, .any]) ?_ ?_
 ·refine wk_list [(0, some 0)] rfl ?_ ?_ ?_ ?_
  all_goals try simp [ints, tmV, teO', rows, ints]
 refine awp_seq ?_
 refine awp_seqR fun K hK => ?_
 simp (maxSteps := 2000000) (disch := omega) [ints, rows, scal, wr64, wr8]
 (repeat' apply And.intro)
 all_goals (try omega)
 refine call_rule (caps := []) (hV) [] [] 2 rfl rfl rfl rfl (by kernel_rfl) (by simp) ?_ trivial trivial rfl trivial trivial (by simp) ?_
 ·simp [scal, rows, ints, rows]
 simp (maxSteps := 2000000) (disch := omega) [ints, rows, scal, wr64, wr8]
 (repeat' first | apply hK | apply And.intro) <;> try first | omega | rfl | (simp <;> omega)
 refine awp_seqR fun K hK => ?_
 simp (maxSteps := 2000000) (disch := omega) [ints, rows, scal, wr64, wr8]
 (repeat' first | apply hK | apply And.intro) <;> try first | omega | rfl | (simp <;> omega)
 by_cases v1 : vErr tb = 0
 case neg =>
  rw [if_pos v1]
  refine awp_cond (b := true) (p := 2) (by simp [scal, v1] <;> omega) ?_
  refine awp_seqR fun K hK => ?_
  simp (maxSteps := 2000000) (disch := omega) [ints, rows, scal, wr64, wr8]
  (repeat' first | apply hK | apply And.intro) <;> try first | omega | rfl | (simp <;> omega)
  refine awp_ret ?_
  unfold valV
  refine ⟨⟨.inr rfl, _, [], rfl, trivial, trivial, by simp [tmV], ?_⟩, by simp [tmV]⟩
  simp [tmV]
 rw [if_neg (by omega)]
 obtain ⟨hl0, hl4⟩ := vErr_len v1
 refine awp_cond (b := false) (p := 2) (by simp [scal, v1] <;> omega) ?_
 refine awp_skip ?_
 show awp _ _ _ _
 refine awp_seq ?_
 refine awp_seqR fun K hK => ?_
 simp (maxSteps := 2000000) (disch := omega) [ints, rows, scal, wr64, wr8, teO', tsTerm]
 (repeat' apply And.intro)
 all_goals (try omega)
 refine call_rule (caps := []) (hT) [] [] 2 rfl rfl rfl rfl (by kernel_rfl) (by simp) ?_ trivial trivial rfl trivial trivial (by simp) ?_
 ·simp [scal, rows, ints, tmV]
 simp (maxSteps := 2000000) (disch := omega) [ints, rows, scal, wr64, wr8]
 (repeat' first | apply hK | apply And.intro) <;> try first | omega | rfl | (simp <;> omega)
 by_cases v2 : t.val = true
 case neg =>
  have e2 : t.val = false := by cases h : t.val <;> simp_all
  have h0 : vTm t = 21 := by unfold vTm; rw [if_neg v2]
  rw [if_pos e2]
  refine awp_cond (b := true) (p := 2) (by simp [scal, h0] <;> omega) ?_
  refine awp_seqR fun K hK => ?_
  simp (maxSteps := 2000000) (disch := omega) [ints, rows, scal, wr64, wr8]
  (repeat' first | apply hK | apply And.intro) <;> try first | omega | rfl | (simp <;> omega)
  refine awp_ret ?_
  unfold valV
  refine ⟨⟨.inr rfl, _, [], rfl, trivial, trivial, by simp [tmV], ?_⟩, by simp [tmV]⟩
  simp [tmV]
 have h0 : vTm t = 0 := by unfold vTm; rw [if_pos v2]
 obtain ⟨hok, hsz⟩ := val_ok v2
 rw [if_neg (by rw [v2]; decide)]
 refine awp_cond (b := false) (p := 2) (by simp [scal, h0] <;> omega) ?_
 refine awp_skip ?_
 show awp _ _ _ _
 refine awp_seq ?_
 refine awp_seqR fun K hK => ?_
 simp (maxSteps := 2000000) (disch := omega) [ints, rows, scal, wr64, wr8, ints]
 (repeat' first | apply hK | apply And.intro) <;> try first | omega | rfl | (simp <;> omega)
 refine awp_block ?_
 refine awp_loop (fun k : Nat => mkS [(0, .t 1 (rows tb)), (1, .t 0 (ints vs)), (5, .ptr 0 0 3), (21, .t 0 (ints vs)), (22, .t 2 (.int .i64 (vs.length : Nat))), (23, .t 2 (.int .i64 (k : Nat)))] [(0, teO' t)] 1 61 [.any, .any, .any]) (fun k => k ≤ vs.length ∧ ∀ i (h : i < vs.length), i < k → 0 ≤ vs[i] ∧ vs[i] < (tb.length : Int)) (fun k => vs.length - k) ?_ ?_
 ·refine ⟨0, ⟨by omega, fun i h h2 => by omega⟩, ?_⟩
  refine wk_list [(0, some 0)] rfl ?_ ?_ ?_ ?_
  all_goals try simp [ints, rows, ints, teO']
 rintro k ⟨hk, hin⟩
 refine awp_seqR fun K hK => ?_
 simp (maxSteps := 2000000) (disch := omega) [ints, rows, scal, wr64, wr8]
 (repeat' first | apply hK | apply And.intro) <;> try first | omega | rfl | (simp <;> omega)
 refine awp_seq ?_
 by_cases hkl : k < vs.length
 ·refine awp_cond (b := true) (p := 2) (by simp [scal, hkl] <;> omega) ?_
  refine awp_skip ?_
  show awp _ _ _ _
  refine awp_seq ?_
  refine awp_block ?_
  refine awp_seqR fun K hK => ?_
  simp (maxSteps := 2000000) (disch := omega) [ints, rows, scal, wr64, wr8, ints, hkl]
  (repeat' first | apply hK | apply And.intro) <;> try first | omega | rfl | (simp <;> omega)
  by_cases h1 : vs[k] < 0
  ·refine awp_seqR fun K hK => ?_
   simp (maxSteps := 2000000) (disch := omega) [ints, rows, scal, wr64, wr8, h1]
   (repeat' first | apply hK | apply And.intro) <;> try first | omega | rfl | (simp <;> omega)
   refine awp_cond (b := true) (p := 2) (by simp [scal, h1] <;> omega) ?_
   refine awp_seqR fun K hK => ?_
   simp (maxSteps := 2000000) (disch := omega) [ints, rows, scal, wr64, wr8]
   (repeat' first | apply hK | apply And.intro) <;> try first | omega | rfl | (simp <;> omega)
   refine awp_ret ?_
   rw [if_pos (.inl (inB_f hkl (.inl h1)))]
   unfold valV
   refine ⟨⟨.inr rfl, _, [], rfl, trivial, trivial, by simp [tmV], ?_⟩, by simp [tmV]⟩
   simp [tmV]
  ·refine awp_seqR fun K hK => ?_
   simp (maxSteps := 2000000) (disch := omega) [ints, rows, scal, wr64, wr8, h1, rows]
   (repeat' first | apply hK | apply And.intro) <;> try first | omega | rfl | (simp <;> omega)
   by_cases h2 : (tb.length : Int) ≤ vs[k]
   ·refine awp_cond (b := true) (p := 2) (by simp [scal, h2] <;> omega) ?_
    refine awp_seqR fun K hK => ?_
    simp (maxSteps := 2000000) (disch := omega) [ints, rows, scal, wr64, wr8]
    (repeat' first | apply hK | apply And.intro) <;> try first | omega | rfl | (simp <;> omega)
    refine awp_ret ?_
    rw [if_pos (.inl (inB_f hkl (.inr h2)))]
    unfold valV
    refine ⟨⟨.inr rfl, _, [], rfl, trivial, trivial, by simp [tmV], ?_⟩, by simp [tmV]⟩
    simp [tmV]
   ·refine awp_cond (b := false) (p := 2) (by simp [scal, h2] <;> omega) ?_
    refine awp_skip ?_
    show awp _ _ _ _
    refine awp_R fun K hK => ?_
    simp (maxSteps := 2000000) (disch := omega) [ints, rows, scal, wr64, wr8]
    (repeat' first | apply hK | apply And.intro) <;> try first | omega | rfl | (simp <;> omega)
    refine ⟨k + 1, ⟨by omega, fun i h h3 => ?_⟩, by omega, ?_⟩
    ·rcases Nat.lt_or_ge i k with h4 | h4
     ·exact hin i h h4
     ·obtain rfl : i = k := by omega
      omega
    refine wk_list [(0, some 0)] rfl ?_ ?_ ?_ ?_
    all_goals try simp [ints, rows, ints, teO']
 obtain rfl : k = vs.length := by omega
 have v3 := inB_t fun i h => hin i h h
 have hva := vars_fn [t] (by simp) (fun a ha => by
  obtain rfl := List.mem_singleton.1 ha
  exact ⟨hok, by omega⟩)
 have hgr : grL [t] = t.gr := by rw [grL, grL]; omega
 rw [hgr, cells1] at hva
 refine awp_cond (b := false) (p := 2) (by simp [scal] <;> omega) ?_
 refine awp_exit ?_
 show awp _ _ _ _
 refine awp_weak (σ' := mkS [(0, .t 1 (rows tb)), (1, .t 0 (ints vs)), (5, .ptr 0 0 3)] [(0, teO' t)] 1 61 [.any, .any, .any]) ?_ ?_
 ·refine wk_list [(0, some 0)] rfl ?_ ?_ ?_ ?_
  all_goals try simp [ints, teO', rows, ints]
 refine awp_seq ?_
 refine awp_seqR fun K hK => ?_
 simp (maxSteps := 2000000) (disch := omega) [ints, rows, scal, wr64, wr8, teO', tsTerm, rng_l3]
 (repeat' apply And.intro)
 all_goals (try omega)
 refine call_rule (caps := []) (hva) [] [] 2 rfl rfl rfl rfl (by kernel_rfl) (by simp) ?_ trivial trivial rfl trivial trivial (by simp) ?_
 ·simp [scal, rows, ints]
 simp (maxSteps := 2000000) (disch := omega) [ints, rows, scal, wr64, wr8, ints]
 (repeat' first | apply hK | apply And.intro) <;> try first | omega | rfl | (simp <;> omega)
 by_cases v4 : vs.length < t.gr
 ·rw [if_pos (.inr v4)]
  refine awp_cond (b := true) (p := 2) (by simp [scal, v4] <;> omega) ?_
  refine awp_seqR fun K hK => ?_
  simp (maxSteps := 2000000) (disch := omega) [ints, rows, scal, wr64, wr8]
  (repeat' first | apply hK | apply And.intro) <;> try first | omega | rfl | (simp <;> omega)
  refine awp_ret ?_
  unfold valV
  refine ⟨⟨.inr rfl, _, [], rfl, trivial, trivial, by simp [tmV], ?_⟩, by simp [tmV]⟩
  simp [tmV]
 rw [if_neg (by
         rintro (h | h); · rw [v3] at h; cases h
         ·exact v4 h)]
 have ht := TbL.of v1
 have hId := mulId_fn tb v1
 have hHo := hasOne_fn [t] (by simp) (fun a ha => by
  obtain rfl := List.mem_singleton.1 ha
  exact ⟨hok, by omega⟩)
 have hh1 : has1L [t] = t.has1 := by rw [has1L, has1L, Bool.or_false]
 rw [hh1, cells1] at hHo
 refine awp_cond (b := false) (p := 2) (by simp [scal, v4] <;> omega) ?_
 refine awp_skip ?_
 show awp _ _ _ _
 refine awp_seqR fun K hK => ?_
 simp (maxSteps := 2000000) (disch := omega) [ints, rows, scal, wr64, wr8]
 (repeat' apply And.intro)
 all_goals (try omega)
 refine call_rule (caps := []) (hId) [] [] 2 rfl rfl rfl rfl (by kernel_rfl) (by simp) ?_ trivial trivial rfl trivial trivial (by simp) ?_
 ·simp [scal, rows, ints, rows]
 simp (maxSteps := 2000000) (disch := omega) [ints, rows, scal, wr64, wr8]
 (repeat' first | apply hK | apply And.intro) <;> try first | omega | rfl | (simp <;> omega)
 have hrg := idI_rng (tabOf tb) tb.length
 have ho1 := fun h => one_ok (T := tabOf tb) (n := tb.length) (t := t) h
 generalize idI (tabOf tb) tb.length = one at hId hrg ho1 ⊢
 have hrg2 : one = -1 ∨ 0 ≤ one := by
  rcases hrg with h | ⟨x, h, -⟩ <;> omega
 clear hrg
 refine awp_weak (σ' := mkS [(0, .t 1 (rows tb)), (1, .t 0 (ints vs)), (5, .ptr 0 0 3), (11, .t 2 (.int .i64 one))] [(0, teO' t)] 1 61 [.any, .any, .any]) ?_ ?_
 ·refine wk_list [(0, some 0)] rfl ?_ ?_ ?_ ?_
  all_goals try simp [ints, tmV, teO', rows, ints]
 by_cases e6 : one < 0 ∧ t.has1 = true
 ·rw [if_pos e6]
  obtain rfl : one = -1 := by omega
  rw [e6.2] at hHo
  refine awp_seq ?_
  refine awp_seqR fun K hK => ?_
  simp (maxSteps := 2000000) (disch := omega) [ints, rows, scal, wr64, wr8, teO', tsTerm, rng_l3]
  (repeat' apply And.intro)
  all_goals (try omega)
  refine call_rule (caps := []) (hHo) [] [] 2 (by simp [scal, rows, ints]) rfl rfl rfl (by kernel_rfl) (by simp) ?_ trivial trivial rfl trivial trivial (by simp) ?_
  ·simp [scal, rows, ints]
  simp (maxSteps := 2000000) (disch := omega) [ints, rows, scal, wr64, wr8]
  (repeat' first | apply hK | apply And.intro) <;> try first | omega | rfl | (simp <;> omega)
  refine awp_cond (b := true) (p := 2) (by simp [scal] <;> omega) ?_
  refine awp_seqR fun K hK => ?_
  simp (maxSteps := 2000000) (disch := omega) [ints, rows, scal, wr64, wr8]
  (repeat' first | apply hK | apply And.intro) <;> try first | omega | rfl | (simp <;> omega)
  refine awp_ret ?_
  unfold valV
  refine ⟨⟨.inr rfl, _, [], rfl, trivial, trivial, by simp [tmV], ?_⟩, by simp [tmV]⟩
  simp [tmV]
 rw [if_neg e6]
 refine awp_seq (awp_mono (Q := fun e σ => e = Exit.normal ∧ Wk σ (mkS [(0, .t 1 (rows tb)), (1, .t 0 (ints vs)), (5, .ptr 0 0 3), (11, .t 2 (.int .i64 one))] [(0, teO' t)] 1 61 [.any, .any, .any])) ?_ ?_)
 ·by_cases e5 : one < 0
  ·have e7 : t.has1 = false := by
    cases h : t.has1 with
    | false => rfl
    | true => exact absurd ⟨e5, h⟩ e6
   rw [e7] at hHo
   refine awp_seqR fun K hK => ?_
   simp (maxSteps := 2000000) (disch := omega) [ints, rows, scal, wr64, wr8, teO', tsTerm, e5, rng_l3]
   (repeat' apply And.intro)
   all_goals (try omega)
   refine call_rule (caps := []) (hHo) [] [] 2 (by simp [scal, rows, ints]) rfl rfl rfl (by kernel_rfl) (by simp) ?_ trivial trivial rfl trivial trivial (by simp) ?_
   ·simp [scal, rows, ints]
   simp (maxSteps := 2000000) (disch := omega) [ints, rows, scal, wr64, wr8]
   (repeat' first | apply hK | apply And.intro) <;> try first | omega | rfl | (simp <;> omega)
   refine awp_cond (b := false) (p := 2) (by simp [scal] <;> omega) ?_
   refine awp_skip ?_
   refine ⟨rfl, ?_⟩
   refine wk_list [(0, some 0)] rfl ?_ ?_ ?_ ?_
   all_goals try simp [ints, teO', rows, ints]
  ·refine awp_seqR fun K hK => ?_
   simp (maxSteps := 2000000) (disch := omega) [ints, rows, scal, wr64, wr8, e5]
   (repeat' first | apply hK | apply And.intro) <;> try first | omega | rfl | (simp <;> omega)
   refine awp_cond (b := false) (p := 2) (by simp [scal, e5] <;> omega) ?_
   refine awp_skip ?_
   refine ⟨rfl, ?_⟩
   refine wk_list [(0, some 0)] rfl ?_ ?_ ?_ ?_
   all_goals try simp [ints, teO', rows, ints]
 rintro e σ ⟨rfl, hwk⟩
 refine awp_weak hwk ?_
 clear hwk
 show awp _ _ _ _
 have hC := compile_fn t hok (by omega)
 have hcl := cmp_len t
 have hM := newMachine_fn tb tb.length (tabOf tb) ht (vErr_asc v1) hl0 (by omega) one [t.cmp] (by simp) (fun p hp => by
  obtain rfl := List.mem_singleton.1 hp
  exact ⟨by omega, cmp_rng t hok⟩)
 obtain ⟨-, hE⟩ := exn_top (one := one) (o1 := one.toNat) ht.lt (vErr_asc v1) (vs_in v3) t v2 (by omega) (ho1 e6) [t.cmp] (by simp)
 have hRn := run_fn tb tb.length (tabOf tb) ht (vErr_asc v1) (by omega) one (useP [t.cmp] zU) vs t.cmp (by omega) _ hE
 generalize useP [t.cmp] zU = U at hM hRn
 generalize t.ev (tabOf tb) tb.length one.toNat (vsF vs) = r at hRn ⊢
 generalize t.cmp = pt at hC hM hRn
 refine awp_seqR fun K hK => ?_
 simp (maxSteps := 2000000) (disch := omega) [ints, rows, scal, wr64, wr8, teO', tsTerm]
 (repeat' apply And.intro)
 all_goals (try omega)
 refine call_rule (caps := []) (hC) [] [] 2 rfl rfl rfl rfl (by kernel_rfl) (by simp) ?_ trivial trivial rfl trivial trivial (by simp) ?_
 ·simp [scal, rows, ints, tmV]
 simp (maxSteps := 2000000) (disch := omega) [ints, rows, scal, wr64, wr8]
 (repeat' first | apply hK | apply And.intro) <;> try first | omega | rfl | (simp <;> omega)
 refine awp_weak (σ' := mkS [(0, .t 1 (rows tb)), (1, .t 0 (ints vs)), (11, .t 2 (.int .i64 one)), (12, .t 2 (pgT pt))] [] 0 61 [.any, .any, .any]) ?_ ?_
 ·refine wk_list [] rfl ?_ ?_ ?_ ?_
  all_goals try simp [ints, rows, ints, pgT]
 refine awp_seqR fun K hK => ?_
 simp (maxSteps := 2000000) (disch := omega) [ints, rows, scal, wr64, wr8, rng_l1]
 (repeat' apply And.intro)
 all_goals (try omega)
 refine call_rule (caps := []) (hM) [] [4000000] 1 rfl rfl rfl rfl (by kernel_rfl) (by simp) ?_ ?_ (by simp) rfl (by simp) ⟨.inl ⟨by omega, by omega⟩, trivial⟩ (by simp [mcO, mcC_in, mcC_out, rows, pgT]) ?_
 ·simp [scal, rows, ints, mcO, mcC_in, mcC_out, rows, pgT]
 ·trivial
 simp (maxSteps := 2000000) (disch := omega) [ints, rows, scal, wr64, wr8, mcO, mcC_out]
 (repeat' apply And.intro)
 all_goals (try omega)
 refine call_rule (caps := []) (hRn) [4000000] [4000000] 1 rfl rfl rfl rfl (by kernel_rfl) (by simp) ?_ ?_ (by simp) rfl (by simp) ⟨.inr ⟨rfl, 0, _, _, _, _, _, rfl, rfl, (by first | rfl | simp [mcO, mcC_in, mcC_out, pgT, rows, ints]), rfl, (by first | rfl | simp [mcO, mcC_in, mcC_out, pgT, rows, ints])⟩, trivial⟩ (by simp [mcO, mcC_in, mcC_out, pgT, rows, ints]) ?_
 ·simp [scal, rows, ints, mcO, mcC_in, mcC_out, pgT, rows, ints]
 ·simp [scal, rows, ints, mcO, mcC_in, mcC_out, pgT, rows, ints]
 simp (maxSteps := 2000000) (disch := omega) [ints, rows, scal, wr64, wr8, mcO, mcC_out]
 (repeat' first | apply hK | apply And.intro) <;> try first | omega | rfl | (simp <;> omega)
 refine awp_ret ?_
 unfold valV
 refine ⟨⟨.inr rfl, _, [], rfl, trivial, trivial, by simp [tmV], ?_⟩, by simp [tmV]⟩
 simp [tmV]
end Go.Proofs.YtghnmmfkckneaaaGreat.M
