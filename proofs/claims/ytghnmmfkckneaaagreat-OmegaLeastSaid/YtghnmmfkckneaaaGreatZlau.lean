/-
  Walk in my logic: Violated (omega).
  The examples of chapter 28: known returns true.
-/
import Derived.Test.YtghnmmfkckneaaaGreatZlaq
namespace Go.Proofs.YtghnmmfkckneaaaGreat.M
open Go.RowKit
set_option linter.unusedVariables false
set_option linter.unusedSimpArgs false

theorem idG_rng {T : Nat → Nat → Nat} {n : Nat} : ∀ (f e : Nat), e + f = n → idG T n f e = -1 ∨ ∃ x : Nat, idG T n f e = (x : Int) ∧ x < n ∧ isId T n x = true
 | 0, e, _ => .inl rfl
 | f + 1, e, h => by
  rw [idG]
  by_cases hi : isId T n e = true
  ·rw [if_pos hi]; exact .inr ⟨e, rfl, by omega, hi⟩
  ·rw [if_neg hi]; exact idG_rng f (e + 1) (by omega)
theorem idI_rng (T : Nat → Nat → Nat) (n : Nat) : idI T n = -1 ∨ ∃ x : Nat, idI T n = (x : Int) ∧ x < n ∧ isId T n x = true := idG_rng n 0 (by omega)
def asV (T : Nat → Nat → Nat) (n : Nat) (R : List (List Int)) (t : Tm) (N : List Nat) : Nat := t.ev T n (idI T n).toNat (fun i => (asgF R N i).toNat)
def RIn (n : Nat) (R : List (List Int)) : Prop := ∀ l ∈ R, ∀ x ∈ l, 0 ≤ x ∧ x < (n : Int)
theorem asgF_mem {R : List (List Int)} {N : List Nat} (h : NOk R N) {i : Nat} (hi : i < R.length) : ∃ l ∈ R, asgF R N i ∈ l := by
 obtain ⟨h1, h2, h3⟩ := h.at hi
 exact ⟨R[i], List.getElem_mem hi, by rw [← h3]; exact List.getElem_mem h2⟩
theorem asg_in {n : Nat} {R : List (List Int)} (hR : RIn n R) {N : List Nat} (h : NOk R N) : VIn n (asg R N) (fun i => (asgF R N i).toNat) := ⟨fun i hi => by
 have hi : i < R.length := by simpa using hi
 obtain ⟨l, hl, hm⟩ := asgF_mem h hi
 have := hR l hl _ hm
 refine ⟨?_, by show (asgF R N i).toNat < n; omega⟩
 unfold asg
 rw [tab_get _ hi]
 congr 1
 omega⟩
theorem hrun_of {T : Nat → Nat → Nat} {n : Nat} (hT : ∀ r c, r < n → c < n → T r c < n) (hA : Assoc n T) {R : List (List Int)} (hR : RIn n R) {a b : Tm} (ha : a.val = true) (hb : b.val = true) (hl : R.length = max a.gr b.gr) (h6 : ¬ (idI T n < 0 ∧ (a.has1 || b.has1) = true)) :
  HRun R T n (idI T n) (useP [a.cmp, b.cmp] zU) a.cmp b.cmp (asV T n R a) (asV T n R b) := by
 have h1 : ∀ t : Tm, (t = a ∨ t = b) → t.has1 = true → idI T n = ((idI T n).toNat : Int) ∧ (idI T n).toNat < n := fun t ht h => by
  have h2 : (a.has1 || b.has1) = true := by rcases ht with rfl | rfl <;> simp [h]
  have h3 : ¬ idI T n < 0 := fun h4 => h6 ⟨h4, h2⟩
  rcases idI_rng T n with h5 | ⟨x, h5, h7, -⟩
  ·omega
  ·omega
 have hca := cmp_len a
 have hcb := cmp_len b
 have hva := (val_ok ha).2
 have hvb := (val_ok hb).2
 refine ⟨by omega, by omega, fun N hN => ?_, fun N hN => ?_⟩
 ·exact (exn_top hT hA (asg_in hR hN) a ha (by rw [asg_len]; omega) (h1 a (.inl rfl)) [a.cmp, b.cmp] (by simp)).2
 ·exact (exn_top hT hA (asg_in hR hN) b hb (by rw [asg_len]; omega) (h1 b (.inr rfl)) [a.cmp, b.cmp] (by simp)).2
theorem rngL_in {T : Nat → Nat → Nat} {n : Nat} {set : List Int} (hr : ∀ i (h : i < set.length), 0 ≤ set[i] ∧ set[i] < (n : Int)) (a b : Tm) : RIn n (rngL T set a b) := fun l hl x hx => by
 unfold rngL tab at hl
 obtain ⟨i, -, rfl⟩ := List.mem_map.1 hl
 unfold rngF at hx
 obtain ⟨k, hk, rfl⟩ := List.getElem_of_mem (List.mem_filter.1 hx).1
 exact hr k hk
theorem rngL_le {T : Nat → Nat → Nat} {set : List Int} (a b : Tm) : ∀ l ∈ rngL T set a b, l.length ≤ set.length := fun l hl => by
 unfold rngL tab at hl
 obtain ⟨i, -, rfl⟩ := List.mem_map.1 hl
 exact List.length_filter_le _ _
theorem zero_ok {R : List (List Int)} (h : empB R = false) : NOk R (List.replicate R.length 0) := by
 refine ⟨by simp, fun i hi => ?_⟩
 have h0 : (List.replicate R.length 0).getD i 0 = 0 := by simp [hi]
 rw [h0]
 have e2 : R.getD i [] = R[i] := by simp [hi]
 rw [e2]
 refine Nat.pos_of_ne_zero fun he => ?_
 have : empB R = true := by
  unfold empB
  rw [List.any_eq_true]
  exact ⟨R[i], List.getElem_mem hi, by simpa using he⟩
 rw [h] at this
 cases this
theorem newHunt_all (tb : List (List Int)) (set : List Int) (a b : Tm) (hs : set.length ≤ 100000) :
  (huErr tb set a b ≠ 0 → FnA Tryz.prog 34 [.t 1 (rows tb), .t 0 (ints set), idV 0 a b] (.tup [.t 2 .nilp, .t 2 (.int .i64 (huErr tb set a b))])) ∧
  (huErr tb set a b = 0 → FnS Tryz.prog 34 [.t 1 (rows tb), .t 0 (ints set), idV 0 a b] [] (.tup [.ptr 0 0 5, .t 2 (.int .i64 0)])
   [huO a.cmp b.cmp (rngL (tabOf tb) set a b) 1 2, mcO tb (tabOf tb) tb.length (idI (tabOf tb) tb.length) (useP [a.cmp, b.cmp] zU), nxO (List.replicate (rngL (tabOf tb) set a b).length 0)]) := by
 refine ⟨fun h => ?_, fun h => ?_⟩
 ·unfold huErr at h ⊢
  by_cases h1 : vErr tb ≠ 0
  ·rw [if_pos h1]; exact newHunt_e1 tb set a b h1
  have v1 : vErr tb = 0 := Decidable.not_not.1 h1
  rw [if_neg h1] at h ⊢
  by_cases h2 : closB (tabOf tb) tb.length set = false
  ·rw [if_pos h2]; exact newHunt_e2 tb set a b hs v1 h2
  rw [if_neg h2] at h ⊢
  have h2' : closB (tabOf tb) tb.length set = true := by simpa using h2
  by_cases h3 : ¬ (a.val = true ∧ b.val = true)
  ·rw [if_pos h3]; exact newHunt_e3 tb set a b hs v1 h2' h3
  rw [if_neg h3] at h ⊢
  by_cases h4 : idI (tabOf tb) tb.length < 0 ∧ (a.has1 || b.has1) = true
  ·rw [if_pos h4]; exact newHunt_e4 tb set a b hs v1 h2' (Decidable.not_not.1 h3) h4.1 h4.2
  rw [if_neg h4] at h
  exact absurd rfl h
 ·obtain ⟨v1, hc, e3, e6⟩ := huErr_0 h
  exact newHunt_ok tb set a b hs v1 hc e3 e6
def vioR (T : Nat → Nat → Nat) (n : Nat) (R : List (List Int)) (a b : Tm) (budget : Nat) : Nat × Bool × Bool × List Nat := runH (asV T n R a) (asV T n R b) R budget 0 (List.replicate R.length 0)
noncomputable def vioP (tb : List (List Int)) (set : List Int) (a b : Tm) (budget : Int) : List Int × Nat × Int :=
 if huErr tb set a b ≠ 0 then ([], 0, huErr tb set a b)
 else if budget < 1 ∨ 1048576 < budget then ([], 0, 1)
 else if empB (rngL (tabOf tb) set a b) = true then ([], 0, 9)
 else if (vioR (tabOf tb) tb.length (rngL (tabOf tb) set a b) a b budget.toNat).2.1 = true then (asg (rngL (tabOf tb) set a b) (vioR (tabOf tb) tb.length (rngL (tabOf tb) set a b) a b budget.toNat).2.2.2, (vioR (tabOf tb) tb.length (rngL (tabOf tb) set a b) a b budget.toNat).1, 0)
 else if (vioR (tabOf tb) tb.length (rngL (tabOf tb) set a b) a b budget.toNat).2.2.1 = true then ([], (vioR (tabOf tb) tb.length (rngL (tabOf tb) set a b) a b budget.toNat).1, 9)
 else ([], 0, 7)
def vioV (x : List Int × Nat × Int) : AV := .tup [.t 2 (ints x.1), .t 2 (.int .i64 (x.2.1 : Nat)), .t 2 (.int .i64 x.2.2)]
def vioA (x : List Int × Nat × Int) : AV := .tup [.t 2 (if x.2.2 = 0 then ints x.1 else .sl 0 []), .t 2 (.int .i64 (x.2.1 : Nat)), .t 2 (.int .i64 x.2.2)]
set_option maxRecDepth 100000 in
set_option maxHeartbeats 4000000 in
theorem hempty_fn (pa pb : List (Int × Int)) (R : List (List Int)) (hRl : R.length ≤ 1000) (tb : List (List Int)) (T : Nat → Nat → Nat) (n : Nat) (one : Int) (u : Nat → Bool) (N : List Nat) :
  FnS Tryz.prog 35 [.ptr 0 0 5] [huO pa pb R 1 2, mcO tb T n one u, nxO N] (.t 2 (.bool (empB R))) [huO pa pb R 1 2, mcO tb T n one u, nxO N] := by
 have h1 := empCon_fn R hRl
 refine fn_intro Tryz.func35 rfl (by simp [Tryz.f35]) ?_
 rw [show Tryz.f35.ntmps = 8 from rfl, show Tryz.f35.results = #[.tmp 2] from rfl]
 refine awp_seqR fun K hK => ?_
 simp (disch := omega) [ints, rows, scal, wr64, wr8]
 and_intros <;> try first | apply hK | omega | rfl | simp <;> omega
 refine awp_seqR fun K hK => ?_
 simp (disch := omega) [ints, rows, scal, wr64, wr8, huO]
 (repeat' apply And.intro)
 all_goals (try omega)
 refine call_rule (caps := []) (h1) [] [] 2 rfl rfl rfl rfl (by kernel_rfl) (by simp) ?_ trivial trivial rfl trivial trivial (by simp) ?_
 ·simp [scal, rows, ints]
 simp (disch := omega) [ints, rows, scal, wr64, wr8]
 and_intros <;> try first | apply hK | omega | rfl | simp <;> omega
 refine awp_ret ?_
 refine ⟨⟨.inr rfl, _, [(0, some 0), (1, some 1), (2, some 2)], (by first | rfl | (simp [ints, rows, scal, huO, mcO, mcC_wk, nxO, pgT]; rfl)), ?_, ?_, ?_, ?_⟩, ?_⟩
 all_goals try simp [ints, rows, scal, huO, mcO, mcC_wk, nxO, pgT]
set_option maxRecDepth 100000 in
set_option maxHeartbeats 16000000 in
theorem violated_fn' (tb : List (List Int)) (set : List Int) (a b : Tm) (hs : set.length ≤ 100000) (budget : Int) :
  FnA Tryz.prog 9 [.t 1 (rows tb), .t 0 (ints set), idV 0 a b, .t 2 (.int .i64 budget)] (vioA (vioP tb set a b budget)) := by
 refine fn_intro Tryz.func9 rfl (by simp [Tryz.f9]) ?_
 rw [show Tryz.f9.ntmps = 49 from rfl, show Tryz.f9.results = #[.tmp 8, .tmp 9, .tmp 10] from rfl]
 unfold vioP
 by_cases hE : huErr tb set a b ≠ 0
 ·have hh := (newHunt_all tb set a b hs).1 hE
  rw [if_pos hE]
  unfold vioA
  simp only [if_neg hE]
  generalize huErr tb set a b = er at hE hh ⊢
  have hEb : (er == 0) = false := by simpa using hE
  refine awp_seqR fun K hK => ?_
  simp (disch := omega) [ints, rows, scal, wr64, wr8, idV]
  and_intros <;> try first | apply hK | omega | rfl | simp <;> omega
  refine awp_seqR fun K hK => ?_
  simp (disch := omega) [ints, rows, scal, wr64, wr8]
  (repeat' apply And.intro)
  all_goals (try omega)
  refine call_rule (caps := []) (hh) [] [] 1 rfl rfl rfl rfl (by kernel_rfl) (by simp) ?_ ?_ (by simp) rfl (by simp) trivial (by simp [idV]) ?_
  ·simp [scal, rows, ints, idV]
  ·trivial
  simp (disch := omega) [ints, rows, scal, wr64, wr8]
  and_intros <;> try first | apply hK | omega | rfl | simp <;> omega
  refine awp_seq ?_
  refine awp_seqR fun K hK => ?_
  simp (disch := omega) [ints, rows, scal, wr64, wr8]
  and_intros <;> try first | apply hK | omega | rfl | simp <;> omega
  refine awp_cond (b := true) (p := 2) (by simp [scal, hE] <;> omega) ?_
  refine awp_seqR fun K hK => ?_
  simp (disch := omega) [ints, rows, scal, wr64, wr8]
  and_intros <;> try first | apply hK | omega | rfl | simp <;> omega
  refine awp_ret ?_
  refine ⟨⟨.inr rfl, _, [], rfl, trivial, trivial, by simp [idV], ?_⟩, by simp [idV]⟩
  simp [idV]
 have hE0 : huErr tb set a b = 0 := Decidable.not_not.1 hE
 have hh := (newHunt_all tb set a b hs).2 hE0
 obtain ⟨v1, hc, e3, e6⟩ := huErr_0 hE0
 rw [if_neg hE]
 have ht := TbL.of v1
 obtain ⟨hl0, hl4⟩ := vErr_len v1
 have hRl := rngL_len (tabOf tb) set a b
 have hga := gr_6 a (val_ok e3.1).1
 have hgb := gr_6 b (val_ok e3.2).1
 have hH := hrun_of ht.lt (vErr_asc v1) (rngL_in hc.rng a b) e3.1 e3.2 hRl e6
 have hRL := rngL_le (T := tabOf tb) (set := set) a b
 unfold vioR
 generalize rngL (tabOf tb) set a b = R at hh hRl hH hRL ⊢
 generalize useP [a.cmp, b.cmp] zU = U at hh hH ⊢
 generalize asV (tabOf tb) tb.length R a = va at hH ⊢
 generalize asV (tabOf tb) tb.length R b = vb at hH ⊢
 generalize a.cmp = pa at hh hH
 generalize b.cmp = pb at hh hH
 generalize idI (tabOf tb) tb.length = one at hh hH
 refine awp_seqR fun K hK => ?_
 simp (disch := omega) [ints, rows, scal, wr64, wr8, idV]
 and_intros <;> try first | apply hK | omega | rfl | simp <;> omega
 refine awp_seqR fun K hK => ?_
 simp (disch := omega) [ints, rows, scal, wr64, wr8]
 (repeat' apply And.intro)
 all_goals (try omega)
 refine call_rule (caps := []) (hh) [] [7000000, 7000001, 7000002] 1 rfl rfl rfl rfl (by kernel_rfl) (by simp) ?_ ?_ (by simp) rfl (by simp) ⟨.inl ⟨by omega, by omega⟩, .inl ⟨by omega, by omega⟩, .inl ⟨by omega, by omega⟩, trivial⟩ (by simp [idV, huO, mcO, nxO]) ?_
 ·simp [scal, rows, ints, idV, huO, mcO, nxO]
 ·trivial
 simp (disch := omega) [ints, rows, scal, wr64, wr8, huO, mcO, mcC_out, nxO]
 and_intros <;> try first | apply hK | omega | rfl | simp <;> omega
 refine awp_seq ?_
 refine awp_seqR fun K hK => ?_
 simp (disch := omega) [ints, rows, scal, wr64, wr8]
 and_intros <;> try first | apply hK | omega | rfl | simp <;> omega
 refine awp_cond (b := false) (p := 2) (by simp [scal] <;> omega) ?_
 refine awp_skip ?_
 show awp _ _ _ _
 refine awp_weak (σ' := mkS [(3, .t 2 (.int .i64 budget)), (11, .ptr 0 0 5)] [(0, huO pa pb R 1 2), (1, mcO tb (tabOf tb) tb.length one U), (2, nxO (List.replicate R.length 0))] 3 49 [.any, .any, .any, .any]) ?_ ?_
 ·refine wk_list [(0, some 7000000), (1, some 7000001), (2, some 7000002)] rfl ?_ ?_ ?_ ?_
  all_goals try simp [ints, huO, mcO, mcC_wk, mcC_out, nxO, rows, pgT]
 refine awp_seq ?_
 by_cases hb1 : budget < 1
 ·rw [if_pos (.inl hb1)]
  refine awp_seqR fun K hK => ?_
  simp (disch := omega) [ints, rows, scal, wr64, wr8, hb1]
  and_intros <;> try first | apply hK | omega | rfl | simp <;> omega
  refine awp_cond (b := true) (p := 2) (by simp [scal, hb1] <;> omega) ?_
  refine awp_seqR fun K hK => ?_
  simp (disch := omega) [ints, rows, scal, wr64, wr8]
  and_intros <;> try first | apply hK | omega | rfl | simp <;> omega
  refine awp_ret ?_
  unfold vioA
  refine ⟨⟨.inr rfl, _, [], (by first | rfl | (simp [ints, rows, scal, idV]; rfl)), ?_, ?_, ?_, ?_⟩, ?_⟩
  all_goals try simp [ints, rows, scal, idV]
 by_cases hb2 : 1048576 < budget
 ·rw [if_pos (.inr hb2)]
  refine awp_seqR fun K hK => ?_
  simp (disch := omega) [ints, rows, scal, wr64, wr8, hb1, hb2]
  and_intros <;> try first | apply hK | omega | rfl | simp <;> omega
  refine awp_cond (b := true) (p := 2) (by simp [scal, hb2] <;> omega) ?_
  refine awp_seqR fun K hK => ?_
  simp (disch := omega) [ints, rows, scal, wr64, wr8]
  and_intros <;> try first | apply hK | omega | rfl | simp <;> omega
  refine awp_ret ?_
  unfold vioA
  refine ⟨⟨.inr rfl, _, [], (by first | rfl | (simp [ints, rows, scal, idV]; rfl)), ?_, ?_, ?_, ?_⟩, ?_⟩
  all_goals try simp [ints, rows, scal, idV]
 rw [if_neg (by omega)]
 have hEm := hempty_fn pa pb R (by omega) tb (tabOf tb) tb.length one U (List.replicate R.length 0)
 refine awp_seqR fun K hK => ?_
 simp (disch := omega) [ints, rows, scal, wr64, wr8, hb1, hb2]
 and_intros <;> try first | apply hK | omega | rfl | simp <;> omega
 refine awp_cond (b := false) (p := 2) (by simp [scal, hb2] <;> omega) ?_
 refine awp_skip ?_
 show awp _ _ _ _
 refine awp_seq ?_
 refine awp_seqR fun K hK => ?_
 simp (disch := omega) [ints, rows, scal, wr64, wr8]
 (repeat' apply And.intro)
 all_goals (try omega)
 refine call_rule (caps := []) (hEm) [0, 1, 2] [0, 7000003, 7000004] 1 rfl rfl rfl rfl (by kernel_rfl) (by simp) ?_ ?_ (by simp) rfl (by simp) ⟨.inr ⟨rfl, 0, _, _, _, _, _, rfl, rfl, (by first | rfl | simp [huO, mcO, mcC_in, mcC_out, nxO, pgT, rows]), rfl, (by first | rfl | simp [huO, mcO, mcC_in, mcC_out, nxO, pgT, rows])⟩, .inl ⟨by omega, by omega⟩, .inl ⟨by omega, by omega⟩, trivial⟩ (by simp [huO, mcO, mcC_in, mcC_out, nxO, pgT, rows]) ?_
 ·simp [scal, rows, ints, huO, mcO, mcC_in, mcC_out, nxO, pgT, rows]
 ·simp [scal, rows, ints, huO, mcO, mcC_in, mcC_out, nxO, pgT, rows]
 simp (disch := omega) [ints, rows, scal, wr64, wr8, huO, mcO, mcC_out, nxO]
 (repeat' first | apply hK | apply And.intro) <;> try first | omega | rfl | (simp <;> omega)
 cases hem : empB R with
 | true =>
  simp only [↓reduceIte]
  refine awp_cond (b := true) (p := 2) (by simp [scal, hem] <;> omega) ?_
  refine awp_seqR fun K hK => ?_
  simp (disch := omega) [ints, rows, scal, wr64, wr8]
  and_intros <;> try first | apply hK | omega | rfl | simp <;> omega
  refine awp_ret ?_
  unfold vioA
  refine ⟨⟨.inr rfl, _, [], (by first | rfl | (simp [ints, rows, scal, idV]; rfl)), ?_, ?_, ?_, ?_⟩, ?_⟩
  all_goals try simp [ints, rows, scal, idV]
 | false =>
  simp only [Bool.false_eq_true, ↓reduceIte]
  obtain ⟨lim, rfl⟩ : ∃ lim : Nat, budget = (lim : Int) := ⟨budget.toNat, by omega⟩
  rw [Int.toNat_natCast]
  have hz := zero_ok hem
  have hRun := hrun_fn pa pb R (by omega) (fun l hl => by have := hRL l hl; omega) tb (tabOf tb) tb.length ht (vErr_asc v1) (by omega) one U va vb hH lim (by omega) _ hz
  have hok := (runH_ok (v1 := va) (v2 := vb) lim 0 hz).1
  generalize runH va vb R lim 0 (List.replicate R.length 0) = x at hRun hok ⊢
  obtain ⟨st, fo, dn, M⟩ := x
  simp only at hRun hok ⊢
  have hVa := hvalues_fn pa pb R (by omega) tb (tabOf tb) tb.length one U M hok
  refine awp_cond (b := false) (p := 2) (by simp [scal, hem] <;> omega) ?_
  refine awp_skip ?_
  show awp _ _ _ _
  refine awp_weak (σ' := mkS [(3, .t 2 (.int .i64 (lim : Nat))), (11, .ptr 0 0 5)] [(0, huO pa pb R 1 2), (1, mcO tb (tabOf tb) tb.length one U), (2, nxO (List.replicate R.length 0))] 3 49 [.any, .any, .any, .any]) ?_ ?_
  ·refine wk_list [(0, some 0), (1, some 7000003), (2, some 7000004)] rfl ?_ ?_ ?_ ?_
   all_goals try simp [ints, huO, mcO, mcC_wk, mcC_out, nxO, rows, pgT]
  refine awp_seqR fun K hK => ?_
  simp (disch := omega) [ints, rows, scal, wr64, wr8]
  (repeat' apply And.intro)
  all_goals (try omega)
  refine call_rule (caps := []) (hRun) [0, 1, 2] [0, 2000003, 2000004] 1 rfl rfl rfl rfl (by kernel_rfl) (by simp) ?_ ?_ (by simp) rfl (by simp) ⟨.inr ⟨rfl, 0, _, _, _, _, _, rfl, rfl, (by first | rfl | simp [huO, mcO, mcC_in, mcC_out, nxO, pgT, rows]), rfl, (by first | rfl | simp [huO, mcO, mcC_in, mcC_out, nxO, pgT, rows])⟩, .inl ⟨by omega, by omega⟩, .inl ⟨by omega, by omega⟩, trivial⟩ (by simp [huO, mcO, mcC_in, mcC_out, nxO, pgT, rows]) ?_
  ·simp [scal, rows, ints, huO, mcO, mcC_in, mcC_out, nxO, pgT, rows]
  ·simp [scal, rows, ints, huO, mcO, mcC_in, mcC_out, nxO, pgT, rows]
  simp (disch := omega) [ints, rows, scal, wr64, wr8, huO, mcO, mcC_out, nxO]
  and_intros <;> try first | apply hK | omega | rfl | simp <;> omega
  refine awp_weak (σ' := mkS [(11, .ptr 0 0 5), (13, .t 2 (.int .i64 (st : Nat))), (14, .t 2 (.bool fo)), (15, .t 2 (.bool dn))] [(0, huO pa pb R 1 2), (1, mcO tb (tabOf tb) tb.length one U), (2, nxO M)] 3 49 [.any, .any, .any, .any]) ?_ ?_
  ·refine wk_list [(0, some 0), (1, some 2000003), (2, some 2000004)] rfl ?_ ?_ ?_ ?_
   all_goals try simp [ints, huO, mcO, mcC_wk, mcC_out, nxO, rows, pgT]
  refine awp_seq ?_
  refine awp_block ?_
  refine awp_seqR fun K hK => ?_
  simp (disch := omega) [ints, rows, scal, wr64, wr8]
  (repeat' first | apply hK | apply And.intro) <;> try first | omega | rfl | (simp <;> omega)
  cases fo with
  | true =>
   simp only [↓reduceIte]
   refine awp_cond (b := true) (p := 2) (by simp [scal] <;> omega) ?_
   refine awp_seqR fun K hK => ?_
   simp (disch := omega) [ints, rows, scal, wr64, wr8]
   (repeat' apply And.intro)
   all_goals (try omega)
   refine call_rule (caps := []) (hVa) [0, 1, 2] [0, 3000003, 3000004, 3000005] 1 rfl rfl rfl rfl (by kernel_rfl) (by simp) ?_ ?_ (by simp) rfl (by simp) ⟨.inr ⟨rfl, 0, _, _, _, _, _, rfl, rfl, (by first | rfl | simp [huO, mcO, mcC_in, mcC_out, nxO, pgT, rows, vaO]), rfl, (by first | rfl | simp [huO, mcO, mcC_in, mcC_out, nxO, pgT, rows, vaO])⟩, .inl ⟨by omega, by omega⟩, .inl ⟨by omega, by omega⟩, .inl ⟨by omega, by omega⟩, trivial⟩ (by simp [huO, mcO, mcC_in, mcC_out, nxO, pgT, rows, vaO]) ?_
   ·simp [scal, rows, ints, huO, mcO, mcC_in, mcC_out, nxO, pgT, rows, vaO]
   ·simp [scal, rows, ints, huO, mcO, mcC_in, mcC_out, nxO, pgT, rows, vaO]
   simp (disch := omega) [ints, rows, scal, wr64, wr8, huO, mcO, mcC_out, nxO, vaO]
   and_intros <;> try first | apply hK | omega | rfl | simp <;> omega
   refine awp_ret ?_
   unfold vioA
   refine ⟨⟨.inr rfl, _, [], (by first | rfl | (simp [ints, rows, scal, idV, asg, tab_map]; rfl)), ?_, ?_, ?_, ?_⟩, ?_⟩
   all_goals try simp [ints, rows, scal, idV, asg, tab_map]
  | false =>
   simp only [Bool.false_eq_true, ↓reduceIte]
   refine awp_cond (b := false) (p := 2) (by simp [scal] <;> omega) ?_
   refine awp_seqR fun K hK => ?_
   simp (disch := omega) [ints, rows, scal, wr64, wr8]
   (repeat' first | apply hK | apply And.intro) <;> try first | omega | rfl | (simp <;> omega)
   cases dn with
   | true =>
    simp only [↓reduceIte]
    refine awp_cond (b := true) (p := 2) (by simp [scal] <;> omega) ?_
    refine awp_seqR fun K hK => ?_
    simp (disch := omega) [ints, rows, scal, wr64, wr8]
    and_intros <;> try first | apply hK | omega | rfl | simp <;> omega
    refine awp_ret ?_
    unfold vioA
    refine ⟨⟨.inr rfl, _, [], (by first | rfl | (simp [ints, rows, scal, idV]; rfl)), ?_, ?_, ?_, ?_⟩, ?_⟩
    all_goals try simp [ints, rows, scal, idV]
   | false =>
    simp only [Bool.false_eq_true, ↓reduceIte]
    refine awp_cond (b := false) (p := 2) (by simp [scal] <;> omega) ?_
    refine awp_skip ?_
    show awp _ _ _ _
    refine awp_seqR fun K hK => ?_
    simp (disch := omega) [ints, rows, scal, wr64, wr8]
    and_intros <;> try first | apply hK | omega | rfl | simp <;> omega
    refine awp_ret ?_
    unfold vioA
    refine ⟨⟨.inr rfl, _, [], (by first | rfl | (simp [ints, rows, scal, idV]; rfl)), ?_, ?_, ?_, ?_⟩, ?_⟩
    all_goals try simp [ints, rows, scal, idV]
theorem vioP_err {tb : List (List Int)} {set : List Int} {a b : Tm} {budget : Int} (h : (vioP tb set a b budget).2.2 ≠ 0) : (vioP tb set a b budget).1 = [] := by
 unfold vioP at h ⊢
 by_cases h1 : huErr tb set a b ≠ 0
 ·rw [if_pos h1]
 rw [if_neg h1] at h ⊢
 by_cases h2 : budget < 1 ∨ 1048576 < budget
 ·rw [if_pos h2]
 rw [if_neg h2] at h ⊢
 by_cases h3 : empB (rngL (tabOf tb) set a b) = true
 ·rw [if_pos h3]
 rw [if_neg h3] at h ⊢
 by_cases h4 : (vioR (tabOf tb) tb.length (rngL (tabOf tb) set a b) a b budget.toNat).2.1 = true
 ·rw [if_pos h4] at h; exact absurd rfl h
 rw [if_neg h4]
 split <;> rfl
theorem violated_fn (tb : List (List Int)) (set : List Int) (a b : Tm) (hs : set.length ≤ 100000) (budget : Int) :
  FnA Tryz.prog 9 [.t 1 (rows tb), .t 0 (ints set), idV 0 a b, .t 2 (.int .i64 budget)] (vioV (vioP tb set a b budget)) :=
 FnS.res' (violated_fn' tb set a b hs budget) fun E v h => h.upT ⟨fun E v h => by
  by_cases e : (vioP tb set a b budget).2.2 = 0
  ·rw [if_pos e] at h; exact h
  ·rw [if_neg e] at h; rw [vioP_err e]; exact h.nil3 1, fun _ _ h => h, fun _ _ h => h, trivial⟩

set_option linter.unusedSimpArgs false

theorem wkT_nil {H : Nat → Option AObj} {un : Nat → Prop} {q : Nat} : wkT H un q [] [] = True := eq_true ⟨rfl, fun j x y hx _ => by simp at hx⟩
theorem wkT_cons {H : Nat → Option AObj} {un : Nat → Prop} {q : Nat} {a : AV} {t : T} {bs : List AV} {ts : List T} : wkT H un q (a :: bs) (t :: ts) = (wk1 H un q a t ∧ wkT H un q bs ts) := by
 apply propext
 constructor
 ·intro h
  exact ⟨h.2 0 a t rfl rfl, by simpa using h.1, fun j x y hx hy => h.2 (j + 1) x y (by simpa using hx) (by simpa using hy)⟩
 ·rintro ⟨h1, h2⟩
  refine ⟨by simpa using h2.1, fun j x y hx hy => ?_⟩
  cases j with
  | zero => simp at hx hy; subst hx hy; exact h1
  | succ j => exact h2.2 j x y (by simpa using hx) (by simpa using hy)
def z2 : List (List Int) := [[0, 1], [1, 0]]
def kT : Tm := .mk 4 0 [.mk 3 0 [.mk 2 0 [], .mk 2 1 []]]
def kA : Tm := .mk 4 1 [.mk 2 0 []]
def kB : Tm := .mk 4 0 [.mk 2 0 []]
def kC : Tm := .mk 3 0 [.mk 2 0 [], .mk 2 1 []]
def kD : Tm := .mk 3 0 [.mk 2 1 [], .mk 2 0 []]
theorem kn_p1 : parP ⟨#[40, 32, 120, 32, 121, 32, 41, 32, 94, 119]⟩ = (kT, -1, 0) := by kernel_rfl
theorem kn_p2 : parI ⟨#[120, 94, 40, 119, 43, 49, 41, 32, 61, 32, 120, 94, 119]⟩ = (kA, kB, -1, 0) := by kernel_rfl
theorem kn_p3 : parI ⟨#[120, 121, 32, 61, 32, 121, 120]⟩ = (kC, kD, -1, 0) := by kernel_rfl
theorem kn_f : fmtS kT = ⟨#[40, 120, 121, 41, 94, 119]⟩ := by kernel_rfl
theorem kn_row : ∀ r, r < lnx z2 → rowOk z2 r := by
 intro r hr
 have hr : r < 2 := hr
 rcases (by omega : r = 0 ∨ r = 1) with rfl | rfl
 all_goals
  refine ⟨rfl, fun i hi => ?_⟩
  have hi : i < 2 := hi
  rcases (by omega : i = 0 ∨ i = 1) with rfl | rfl <;> exact ⟨by decide, by decide⟩
theorem kn_v : vErr z2 = 0 := vErr_ok (shape_good (by decide) (by decide) kn_row) (by
 intro a b c ha hb hc
 have ha : a < 2 := ha
 have hb : b < 2 := hb
 have hc : c < 2 := hc
 rcases (by omega : a = 0 ∨ a = 1) with rfl | rfl <;> rcases (by omega : b = 0 ∨ b = 1) with rfl | rfl <;> rcases (by omega : c = 0 ∨ c = 1) with rfl | rfl <;> rfl)
theorem kn_c : ClosP (tabOf z2) 2 [0, 1] := by
 refine ⟨fun i h => ?_, fun i h => ?_, fun x hx y hy => ?_⟩
 ·have h : i < 2 := h
  rcases (by omega : i = 0 ∨ i = 1) with rfl | rfl <;> exact ⟨by simp, by simp⟩
 ·have h : i + 1 < 2 := h
  obtain rfl : i = 0 := by omega
  simp
 ·simp at hx hy
  rcases hx with rfl | rfl <;> rcases hy with rfl | rfl <;> decide
theorem huErr_ok {tb : List (List Int)} {set : List Int} {a b : Tm} (v1 : vErr tb = 0) (hc : ClosP (tabOf tb) tb.length set) (e3 : a.val = true ∧ b.val = true) (e6 : ¬ (idI (tabOf tb) tb.length < 0 ∧ (a.has1 || b.has1) = true)) : huErr tb set a b = 0 := by
 unfold huErr
 rw [if_neg (by simp [v1]), if_neg (by rw [closB_t hc]; simp), if_neg (by simp [e3.1, e3.2]), if_neg e6]
theorem kn_1 : vioP z2 [0, 1] kA kB 10 = ([1], 2, 0) := by
 have h0 : huErr z2 [0, 1] kA kB = 0 := huErr_ok kn_v kn_c ⟨by kernel_rfl, by kernel_rfl⟩ (fun h => absurd h.2 (by decide +kernel))
 unfold vioP
 rw [if_neg (show ¬ huErr z2 [0, 1] kA kB ≠ 0 by simp [h0]), if_neg (show ¬ ((10 : Int) < 1 ∨ 1048576 < (10 : Int)) by omega)]
 show _ = _
 kernel_rfl
theorem kn_2 : vioP z2 [0, 1] kC kD 10 = ([], 4, 9) := by
 have h0 : huErr z2 [0, 1] kC kD = 0 := huErr_ok kn_v kn_c ⟨by kernel_rfl, by kernel_rfl⟩ (fun h => absurd h.2 (by decide +kernel))
 unfold vioP
 rw [if_neg (show ¬ huErr z2 [0, 1] kC kD ≠ 0 by simp [h0]), if_neg (show ¬ ((10 : Int) < 1 ∨ 1048576 < (10 : Int)) by omega)]
 show _ = _
 kernel_rfl
set_option maxRecDepth 100000 in
set_option maxHeartbeats 16000000 in
theorem known28_fn : FnA Tryz.prog 12 [] (.t 2 (.bool true)) := by
 have hP := parse_fn ⟨#[40, 32, 120, 32, 121, 32, 41, 32, 94, 119]⟩ (by decide +kernel)
 rw [kn_p1] at hP
 have hI1 := parseId_fn ⟨#[120, 94, 40, 119, 43, 49, 41, 32, 61, 32, 120, 94, 119]⟩ (by decide +kernel)
 rw [kn_p2] at hI1
 have hI2 := parseId_fn ⟨#[120, 121, 32, 61, 32, 121, 120]⟩ (by decide +kernel)
 rw [kn_p3] at hI2
 have hV1 := violated_fn z2 [0, 1] kA kB (by simp) 10
 rw [kn_1] at hV1
 have hV2 := violated_fn z2 [0, 1] kC kD (by simp) 10
 rw [kn_2] at hV2
 have hF := format_fn kT
 rw [kn_f] at hF
 have hS := same_fn [1] [1] (by simp)
 rw [decide_eq_true rfl] at hS
 refine fn_intro Tryz.func12 rfl (by simp [Tryz.f12]) ?_
 rw [show Tryz.f12.ntmps = 91 from rfl, show Tryz.f12.results = #[.tmp 0] from rfl]
 refine awp_seqR fun K hK => ?_
 simp (disch := omega) [ints, rows, scal, wr64, wr8]
 and_intros <;> try first | apply hK | omega | rfl | simp <;> omega
 refine awp_seqR fun K hK => ?_
 simp (disch := omega) [ints, rows, scal, wr64, wr8]
 (repeat' apply And.intro)
 all_goals (try omega)
 refine call_rule (caps := []) (hP) [] [] 2 rfl rfl rfl rfl (by kernel_rfl) (by simp) ?_ trivial trivial rfl trivial trivial (by simp) ?_
 ·simp [scal, rows, ints, parV]
 simp (disch := omega) [ints, rows, scal, wr64, wr8, parV, tmV, tsTerm]
 and_intros <;> try first | apply hK | omega | rfl | simp <;> omega
 refine awp_weak (σ' := mkS [(1, .ptr 0 0 3), (2, .t 2 (.int .i64 (-1))), (3, .t 2 (.int .i64 0))] [(0, tmO kT)] 1 91 []) ?_ ?_
 ·refine wk_list [(0, some 6000000)] rfl ?_ ?_ ?_ ?_
  all_goals try simp [ints, tmO, tsTerm]
 refine awp_seqR fun K hK => ?_
 simp (disch := omega) [ints, rows, scal, wr64, wr8, rng_2]
 and_intros <;> try first | apply hK | omega | rfl | simp <;> omega
 refine awp_weak (σ' := mkS [(1, .ptr 0 0 3), (2, .t 2 (.int .i64 (-1))), (3, .t 2 (.int .i64 0)), (4, .t 2 (rows z2))] [(0, tmO kT)] 1 91 []) ?_ ?_
 ·refine wk_list [(0, some 0)] rfl ?_ ?_ ?_ ?_
  all_goals try simp [ints, tmO, rows, ints, z2, wkT_cons, wkT_nil, wk1]
 refine awp_seqR fun K hK => ?_
 simp (disch := omega) [ints, rows, scal, wr64, wr8]
 (repeat' apply And.intro)
 all_goals (try omega)
 refine call_rule (caps := []) (hI1) [] [] 2 rfl rfl rfl rfl (by kernel_rfl) (by simp) ?_ trivial trivial rfl trivial trivial (by simp) ?_
 ·simp [scal, rows, ints, pidV]
 simp (disch := omega) [ints, rows, scal, wr64, wr8, pidV, idV, tsIdent]
 and_intros <;> try first | apply hK | omega | rfl | simp <;> omega
 refine awp_weak (σ' := mkS [(1, .ptr 0 0 3), (2, .t 2 (.int .i64 (-1))), (3, .t 2 (.int .i64 0)), (4, .t 2 (rows z2)), (5, .ptr 1 0 6), (7, .t 2 (.int .i64 0))] [(0, tmO kT), (1, ibO kA kB)] 2 91 []) ?_ ?_
 ·refine wk_list [(0, some 0), (1, some 5000001)] rfl ?_ ?_ ?_ ?_
  all_goals try simp [ints, tmO, ibO, rows]
 refine awp_seqR fun K hK => ?_
 simp (disch := omega) [ints, rows, scal, wr64, wr8]
 (repeat' apply And.intro)
 all_goals (try omega)
 refine call_rule (caps := []) (hI2) [] [] 2 rfl rfl rfl rfl (by kernel_rfl) (by simp) ?_ trivial trivial rfl trivial trivial (by simp) ?_
 ·simp [scal, rows, ints, pidV]
 simp (disch := omega) [ints, rows, scal, wr64, wr8, pidV, idV, tsIdent]
 and_intros <;> try first | apply hK | omega | rfl | simp <;> omega
 refine awp_weak (σ' := mkS [(1, .ptr 0 0 3), (2, .t 2 (.int .i64 (-1))), (3, .t 2 (.int .i64 0)), (4, .t 2 (rows z2)), (5, .ptr 1 0 6), (7, .t 2 (.int .i64 0)), (8, .ptr 2 0 6), (10, .t 2 (.int .i64 0))] [(0, tmO kT), (1, ibO kA kB), (2, ibO kC kD)] 3 91 []) ?_ ?_
 ·refine wk_list [(0, some 0), (1, some 1), (2, some 5000002)] rfl ?_ ?_ ?_ ?_
  all_goals try simp [ints, tmO, ibO, rows]
 refine awp_seqR fun K hK => ?_
 simp (disch := omega) [ints, rows, scal, wr64, wr8, ibO, tsIdent, rng_2]
 (repeat' apply And.intro)
 all_goals (try omega)
 refine call_rule (caps := []) (hV1) [] [] 2 rfl rfl rfl rfl (by kernel_rfl) (by simp) ?_ trivial trivial rfl trivial trivial (by simp) ?_
 ·simp [scal, rows, ints, idV, rows, ints]
 simp (disch := omega) [ints, rows, scal, wr64, wr8, vioV]
 and_intros <;> try first | apply hK | omega | rfl | simp <;> omega
 refine awp_seqR fun K hK => ?_
 simp (disch := omega) [ints, rows, scal, wr64, wr8, ibO, tsIdent, rng_2]
 (repeat' apply And.intro)
 all_goals (try omega)
 refine call_rule (caps := []) (hV2) [] [] 2 rfl rfl rfl rfl (by kernel_rfl) (by simp) ?_ trivial trivial rfl trivial trivial (by simp) ?_
 ·simp [scal, rows, ints, idV, rows, ints]
 simp (disch := omega) [ints, rows, scal, wr64, wr8, vioV]
 and_intros <;> try first | apply hK | omega | rfl | simp <;> omega
 refine awp_seqR fun K hK => ?_
 simp (disch := omega) [ints, rows, scal, wr64, wr8, tmO, tsTerm]
 (repeat' apply And.intro)
 all_goals (try omega)
 refine call_rule (caps := []) (hF) [] [] 2 (by simp [scal, rows, ints, tmV]) rfl rfl rfl (by kernel_rfl) (by simp) ?_ trivial trivial rfl trivial trivial (by simp) ?_
 ·simp [scal, rows, ints, tmV]
 simp (disch := omega) [ints, rows, scal, wr64, wr8, tmO, tsTerm]
 (repeat' apply And.intro)
 all_goals (try omega)
 refine call_rule (caps := []) (hS) [] [] 2 (by simp [scal, rows, ints]) rfl rfl rfl (by kernel_rfl) (by simp) ?_ trivial trivial rfl trivial trivial (by simp) ?_
 ·simp [scal, rows, ints]
 simp (disch := omega) [ints, rows, scal, wr64, wr8]
 and_intros <;> try first | apply hK | omega | rfl | simp <;> omega
 refine awp_ret ?_
 refine ⟨⟨.inr rfl, _, [], rfl, trivial, trivial, by simp, ?_⟩, by simp⟩
 simp
end Go.Proofs.YtghnmmfkckneaaaGreat.M
