/-
  Walks in my logic: greatest, Needs, Vars of the reference of layer 28.
-/
import Derived.Test.YtghnmmfkckneaaaGreatZsao
import Derived.Test.YtghnmmfkckneaaaGreatZsaq
namespace Go.Proofs.YtghnmmfkckneaaaGreat.M
open Go.RowKit
set_option linter.unusedVariables false
set_option maxRecDepth 100000
set_option maxHeartbeats 32000000
attribute [local simp] ints rows scal wr64 wr8
set_option linter.unusedSimpArgs false

theorem max_i (a b : Nat) : (if (b : Int) > (a : Int) then (b : Int) else (a : Int)) = ((max a b : Nat) : Int) := by
 split <;> omega
theorem greatest_fn : ∀ t : Tm, t.ok = true → t.sz ≤ 1000000 → FnA Tryz.prog 56 [tmV 0 t] (.t 2 (.int .i64 (t.gr : Nat))) := by
 intro t
 induction hsz : t.sz using Nat.strongRecOn generalizing t with
 | _ q ih =>
 intro ho hq
 have hsl := szL_ge t.args
 have hse := sz_eq t
 obtain ⟨hw, ha⟩ := ok_parts ho
 have hgr := gr_eq t
 obtain ⟨base, hbase⟩ : ∃ base : Nat, base = if t.op = 2 then t.n.toNat + 1 else 0 := ⟨_, rfl⟩
 rw [← hbase] at hgr
 refine fn_intro Tryz.func56 rfl (by simp [Tryz.f56]) ?_
 rw [show Tryz.f56.ntmps = 25 from rfl, show Tryz.f56.results = #[.tmp 2] from rfl]
 refine rgS fun K hK => ?_
 simp (disch := omega) [tmV]
 and_intros <;> try first | apply hK | omega | rfl | simp <;> omega
 refine awp_weak (σ' := mkS [(1, .ptr 0 0 3)] [(0, teO' t)] 1 25 [.any]) ?_ ?_
 ·refine wk_list [(0, some 0)] rfl ?_ ?_ ?_ ?_
  all_goals try simp [tmV, teO']
 refine rgS fun K hK => ?_
 simp (disch := omega) [teO', tsTerm]
 and_intros <;> try first | apply hK | omega | rfl | simp <;> omega
 refine awp_seq (awp_mono (Q := fun e σ => e = Exit.normal ∧ Wk σ (mkS [(1, .ptr 0 0 3), (3, .t 2 (.int .i64 (base : Nat)))] [(0, teO' t)] 1 25 [.any])) ?_ ?_)
 ·refine rgS fun K hK => ?_
  simp (disch := omega) [teO', tsTerm]
  (repeat' first | apply hK | apply And.intro) <;> try first | omega | rfl | (simp <;> omega)
  by_cases h2 : t.op = 2
  ·obtain ⟨hn0, hn1⟩ : 0 ≤ t.n ∧ t.n < 6 := by rcases wf_cases hw with ⟨h, -, -⟩ | ⟨h, h0, h1, -⟩ | ⟨h, -, -⟩ | ⟨h, -⟩ <;> omega
   rw [if_pos h2] at hbase
   refine condT (by simp [h2] <;> omega) ?_
   refine rgL fun K hK => ?_
   simp (disch := omega) [teO', tsTerm]
   (repeat' first | apply hK | apply And.intro) <;> try first | omega | rfl | (simp <;> omega)
   refine wk_list [(0, some 0)] rfl ?_ ?_ ?_ ?_
   all_goals try simp [teO']
   omega
  ·rw [if_neg h2] at hbase
   subst hbase
   refine condF (by simp [h2] <;> omega) ?_
   refine awp_skip ?_
   refine ⟨rfl, ?_⟩
   refine wk_list [(0, some 0)] rfl ?_ ?_ ?_ ?_
   all_goals try simp [teO']
 rintro e σ ⟨rfl, hwk⟩
 refine awp_weak hwk ?_
 clear hwk
 show awp _ _ _ _
 refine awp_seq ?_
 refine rgS fun K hK => ?_
 simp (disch := omega) [teO', tsTerm]
 and_intros <;> try first | apply hK | omega | rfl | simp <;> omega
 refine awp_block ?_
 refine awp_loop (fun k : Nat => mkS [(3, .t 2 (.int .i64 (max base (grL (t.args.take k)) : Nat))), (13, .t 0 (.sl 3 (cellsL t.args))), (14, .t 2 (.int .i64 t.args.length)), (15, .t 2 (.int .i64 k))] [] 0 25 [.any]) (fun k => k ≤ t.args.length) (fun k => t.args.length - k) ?_ ?_
 ·refine ⟨0, by omega, ?_⟩
  refine wk_list [] rfl ?_ ?_ ?_ ?_
  all_goals try simp [grL]
 intro k hk
 refine rgS fun K hK => ?_
 simp (disch := omega)
 and_intros <;> try first | apply hK | omega | rfl | simp <;> omega
 refine awp_seq ?_
 by_cases hkl : k < t.args.length
 ·obtain ⟨a, hak⟩ : ∃ a, a = t.args[k] := ⟨_, rfl⟩
  have hcut := cellsL_cut t.args k hkl
  rw [← hak, Tm.cells_eq] at hcut
  have ham : a ∈ t.args := by rw [hak]; exact List.getElem_mem hkl
  have hlt := sz_arg ham
  have hA := ih a.sz (by omega) a rfl (ha a ham) (by omega)
  have hstep := grL_take hkl
  rw [← hak] at hstep
  have hmx := max_i (max base (grL (t.args.take k))) a.gr
  refine condT (by simp [hkl] <;> omega) ?_
  refine awp_skip ?_
  show awp _ _ _ _
  refine awp_seq ?_
  refine awp_block ?_
  refine rgS fun K hK => ?_
  simp (disch := omega) [hcut, hkl, tsTerm]
  and_intros <;> try first | apply hK | omega | rfl | simp <;> omega
  refine rgL fun K hK => ?_
  simp (disch := omega) [tsTerm]
  (repeat' apply And.intro)
  all_goals (try omega)
  refine callO (hA) rfl rfl rfl rfl (by kernel_rfl) (by simp) ?_ ?_
  ·simp [tmV]
  simp (disch := omega)
  and_intros <;> try first | apply hK | omega | rfl | simp <;> omega
  show awp _ _ _ _
  refine rgL fun K hK => ?_
  simp (disch := omega)
  (repeat' first | apply hK | apply And.intro) <;> try first | omega | rfl | (simp <;> omega)
  refine ⟨k + 1, by omega, by omega, ?_⟩
  refine wk_list [] rfl ?_ ?_ ?_ ?_
  all_goals try simp [hstep]
  split <;> omega
 ·obtain rfl : k = t.args.length := by omega
  refine condF (by simp <;> omega) ?_
  refine awp_exit ?_
  show awp _ _ _ _
  refine rgS fun K hK => ?_
  simp (disch := omega)
  and_intros <;> try first | apply hK | omega | rfl | simp <;> omega
  refine awp_ret ?_
  rw [hgr]
  refine ⟨⟨.inr rfl, _, [], rfl, trivial, trivial, by simp [tmV], ?_⟩, by simp [tmV]⟩
  simp [tmV]
theorem needs_fn : ∀ t : Tm, t.sz ≤ 1000000 → FnA Tryz.prog 57 [tmV 0 t] (.t 2 (.bool t.has1)) := by
 intro t
 induction hsz : t.sz using Nat.strongRecOn generalizing t with
 | _ q ih =>
 intro hq
 have hsl := szL_ge t.args
 have hse := sz_eq t
 have hgr : t.has1 = ((t.op == 1) || has1L t.args) := by
  rw [has1_eq]
  by_cases h : t.op = 1 <;> simp [h]
 refine fn_intro Tryz.func57 rfl (by simp [Tryz.f57]) ?_
 rw [show Tryz.f57.ntmps = 23 from rfl, show Tryz.f57.results = #[.tmp 2] from rfl]
 refine rgS fun K hK => ?_
 simp (disch := omega) [tmV]
 and_intros <;> try first | apply hK | omega | rfl | simp <;> omega
 refine awp_weak (σ' := mkS [(1, .ptr 0 0 3)] [(0, teO' t)] 1 23 [.any]) ?_ ?_
 ·refine wk_list [(0, some 0)] rfl ?_ ?_ ?_ ?_
  all_goals try simp [tmV, teO']
 refine rgS fun K hK => ?_
 simp (disch := omega) [teO', tsTerm]
 and_intros <;> try first | apply hK | omega | rfl | simp <;> omega
 refine awp_seq ?_
 refine rgS fun K hK => ?_
 simp (disch := omega) [teO', tsTerm]
 and_intros <;> try first | apply hK | omega | rfl | simp <;> omega
 refine awp_block ?_
 refine awp_loop (fun k : Nat => mkS [(3, .t 2 (.bool ((t.op == 1) || has1L (t.args.take k)))), (10, .t 0 (.sl 3 (cellsL t.args))), (11, .t 2 (.int .i64 t.args.length)), (12, .t 2 (.int .i64 k))] [] 0 23 [.any]) (fun k => k ≤ t.args.length) (fun k => t.args.length - k) ?_ ?_
 ·refine ⟨0, by omega, ?_⟩
  refine wk_list [] rfl ?_ ?_ ?_ ?_
  all_goals try simp [has1L]
 intro k hk
 obtain ⟨c, hc⟩ : ∃ c, c = ((t.op == 1) || has1L (t.args.take k)) := ⟨_, rfl⟩
 rw [← hc]
 refine rgS fun K hK => ?_
 simp (disch := omega)
 and_intros <;> try first | apply hK | omega | rfl | simp <;> omega
 refine awp_seq ?_
 by_cases hkl : k < t.args.length
 ·obtain ⟨a, hak⟩ : ∃ a, a = t.args[k] := ⟨_, rfl⟩
  have hcut := cellsL_cut t.args k hkl
  rw [← hak, Tm.cells_eq] at hcut
  have ham : a ∈ t.args := by rw [hak]; exact List.getElem_mem hkl
  have hlt := sz_arg ham
  have hA := ih a.sz (by omega) a rfl (by omega)
  have hstep := has1L_take hkl
  rw [← hak] at hstep
  have hnx : ((t.op == 1) || has1L (t.args.take (k + 1))) = (c || a.has1) := by rw [hstep, hc, Bool.or_assoc]
  refine condT (by simp [hkl] <;> omega) ?_
  refine awp_skip ?_
  show awp _ _ _ _
  refine awp_seq ?_
  refine awp_block ?_
  refine rgS fun K hK => ?_
  simp (disch := omega) [hcut, hkl, tsTerm]
  (repeat' first | apply hK | apply And.intro) <;> try first | omega | rfl | (simp <;> omega)
  cases c with
  | true =>
   refine rgL fun K hK => ?_
   simp (disch := omega) [tsTerm]
   and_intros <;> try first | apply hK | omega | rfl | simp <;> omega
   show awp _ _ _ _
   refine rgL fun K hK => ?_
   simp (disch := omega)
   (repeat' first | apply hK | apply And.intro) <;> try first | omega | rfl | (simp <;> omega)
   refine ⟨k + 1, by omega, by omega, ?_⟩
   refine wk_list [] rfl ?_ ?_ ?_ ?_
   all_goals try simp [hnx]
  | false =>
   refine rgL fun K hK => ?_
   simp (disch := omega) [tsTerm]
   (repeat' apply And.intro)
   all_goals (try omega)
   refine callO (hA) (by simp [tmV]) rfl rfl rfl (by kernel_rfl) (by simp) ?_ ?_
   ·simp [tmV]
   simp (disch := omega)
   and_intros <;> try first | apply hK | omega | rfl | simp <;> omega
   show awp _ _ _ _
   refine rgL fun K hK => ?_
   simp (disch := omega)
   (repeat' first | apply hK | apply And.intro) <;> try first | omega | rfl | (simp <;> omega)
   refine ⟨k + 1, by omega, by omega, ?_⟩
   refine wk_list [] rfl ?_ ?_ ?_ ?_
   all_goals try simp [hnx]
 ·obtain rfl : k = t.args.length := by omega
  refine condF (by simp <;> omega) ?_
  refine awp_exit ?_
  show awp _ _ _ _
  refine rgS fun K hK => ?_
  simp (disch := omega)
  and_intros <;> try first | apply hK | omega | rfl | simp <;> omega
  refine awp_ret ?_
  rw [List.take_length, ← hgr] at hc
  rw [← hc]
  refine ⟨⟨.inr rfl, _, [], rfl, trivial, trivial, by simp [tmV], ?_⟩, by simp [tmV]⟩
  simp [tmV]
theorem rVars_fn (a b : Tm) : FnA Tryz.prog 40 [idV 0 a b] (.t 2 (.int .i64 (varsI a b : Nat))) := by
 have hv := rMay_fn a b
 refine fn_intro Tryz.func40 rfl (by simp [Tryz.f40]) ?_
 rw [show Tryz.f40.ntmps = 13 from rfl, show Tryz.f40.results = #[.tmp 2] from rfl]
 refine rgS fun K hK => ?_
 simp (disch := omega) [idV]
 and_intros <;> try first | apply hK | omega | rfl | simp <;> omega
 refine awp_seq ?_
 refine rgS fun K hK => ?_
 simp (disch := omega) [tsIdent]
 (repeat' apply And.intro)
 all_goals (try omega)
 refine callO (hv) rfl rfl rfl rfl (by kernel_rfl) (by simp) ?_ ?_
 ·simp [idV]
 simp (disch := omega)
 (repeat' first | apply hK | apply And.intro) <;> try first | omega | rfl | (simp <;> omega)
 by_cases e : a.val = true ∧ b.val = true
 ·obtain ⟨e1, e2⟩ := e
  have h1 := greatest_fn a (val_ok e1).1 (by have := (val_ok e1).2; omega)
  have h2 := greatest_fn b (val_ok e2).1 (by have := (val_ok e2).2; omega)
  have hva : varsI a b = max a.gr b.gr := by unfold varsI; rw [if_pos ⟨e1, e2⟩]
  have hmx := max_i a.gr b.gr
  refine condF (by simp [e1, e2] <;> omega) ?_
  refine awp_skip ?_
  show awp _ _ _ _
  refine awp_seqD (by kernel_rfl) (fun K hK => ?_)
  simp (disch := omega) [tsIdent, tsTerm]
  (repeat' apply And.intro)
  all_goals (try omega)
  refine callOD (h1) rfl rfl rfl rfl (by kernel_rfl) (by simp) ?_ ?_
  ·simp [tmV]
  simp (disch := omega) [tsIdent, tsTerm]
  (repeat' apply And.intro)
  all_goals (try omega)
  refine callOD (h2) rfl rfl rfl rfl (by kernel_rfl) (by simp) ?_ ?_
  ·simp [tmV]
  simp (disch := omega) [tsIdent, tsTerm]
  and_intros <;> try first | apply hK | (show chkD _ _ = true; kernel_rfl) | omega | rfl | simp <;> omega
  refine awp_ret ?_
  rw [hva]
  refine ⟨⟨.inr rfl, _, [], rfl, trivial, trivial, by simp [idV], ?_⟩, by simp [idV]⟩
  simp [idV]
  split <;> omega
 ·have h0 : a.val = false ∨ b.val = false := by
   cases h : a.val <;> cases h' : b.val <;> simp_all
  have hf : varsI a b = 0 := by unfold varsI; rw [if_neg e]
  refine condT (by simp [h0] <;> omega) ?_
  refine rgS fun K hK => ?_
  simp (disch := omega)
  and_intros <;> try first | apply hK | omega | rfl | simp <;> omega
  refine awp_ret ?_
  rw [hf]
  refine ⟨⟨.inr rfl, _, [], rfl, trivial, trivial, by simp [idV], ?_⟩, by simp [idV]⟩
  simp [idV]
end Go.Proofs.YtghnmmfkckneaaaGreat.M
