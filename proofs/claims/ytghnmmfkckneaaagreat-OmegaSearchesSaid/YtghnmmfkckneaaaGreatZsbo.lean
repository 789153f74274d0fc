/-
  Walks in my logic: Ranges (omega), Begin, assigned (reference of layer 28), SameRows (reference of layer 3).
  Walks in my logic: Begin and Advance of the reference of layer 28, over all elements.
  Walk in my logic: Advance of the reference of layer 28, over all elements, of a search that may go on.
  Walk in my logic: Violated of the reference of layer 28, over all elements.
  Walk in my logic: the law OmegaSearches.
-/
import Derived.Test.YtghnmmfkckneaaaGreatZsav
import Derived.Test.YtghnmmfkckneaaaGreatZsbl
import Derived.Test.YtghnmmfkckneaaaGreatZsbn
import Derived.Test.YtghnmmfkckneaaaGreatZsaq
namespace Go.Proofs.YtghnmmfkckneaaaGreat.M
open Go.RowKit
set_option linter.unusedVariables false
set_option maxRecDepth 100000
set_option maxHeartbeats 32000000
attribute [local simp] ints rows scal wr64 wr8
set_option linter.unusedSimpArgs false

theorem oRanges_fn (tb : List (List Int)) (set : List Int) (a b : Tm) (hs : set.length ≤ 100000) (hE0 : huErr tb set a b = 0) :
  FnA Tryz.prog 22 [.t 1 (rows tb), .t 0 (ints set), idV 0 a b] (.tup [.t 1 (rows (rngL (tabOf tb) set a b)), .t 2 (.int .i64 0)]) := by
 have hh := (newHunt_all tb set a b hs).2 hE0
 generalize rngL (tabOf tb) set a b = R at hh ⊢
 generalize useP [a.cmp, b.cmp] zU = U at hh
 generalize a.cmp = pa at hh
 generalize b.cmp = pb at hh
 generalize idI (tabOf tb) tb.length = one at hh
 refine fn_intro Tryz.func22 rfl (by simp [Tryz.f22]) ?_
 rw [show Tryz.f22.ntmps = 24 from rfl, show Tryz.f22.results = #[.tmp 6, .tmp 7] from rfl]
 refine rgS fun K hK => ?_
 simp (disch := omega) [idV]
 and_intros <;> try first | apply hK | omega | rfl | simp <;> omega
 refine rgS fun K hK => ?_
 simp (disch := omega) [tsIdent]
 (repeat' apply And.intro)
 all_goals (try omega)
 refine call_rule (caps := []) (hh) [] [6000000, 6000001, 6000002] 1 rfl rfl rfl rfl (by kernel_rfl) (by simp) ?_ ?_ (by simp) rfl (by simp) ⟨.inl ⟨by omega, by omega⟩, .inl ⟨by omega, by omega⟩, .inl ⟨by omega, by omega⟩, trivial⟩ (by simp [idV, huO, mcO, nxO]) ?_
 ·simp [idV, huO, mcO, nxO]
 ·trivial
 simp (disch := omega) [huO, mcO, mcC_out, nxO]
 and_intros <;> try first | apply hK | omega | rfl | simp <;> omega
 refine awp_weak (σ' := mkS [(8, .ptr 0 0 5), (9, .t 2 (.int .i64 0))] [(0, huO pa pb R 1 2), (1, mcO tb (tabOf tb) tb.length one U), (2, nxO (List.replicate R.length 0))] 3 24 [.any, .any, .any]) ?_ ?_
 ·refine wk_list [(0, some 6000000), (1, some 6000001), (2, some 6000002)] rfl ?_ ?_ ?_ ?_
  all_goals try simp [huO, mcO, mcC_wk, mcC_out, nxO, pgT]
 refine awp_seq ?_
 refine rgS fun K hK => ?_
 simp (disch := omega)
 and_intros <;> try first | apply hK | omega | rfl | simp <;> omega
 refine condF (by simp <;> omega) ?_
 refine awp_skip ?_
 show awp _ _ _ _
 refine rgS fun K hK => ?_
 simp (disch := omega) [huO]
 and_intros <;> try first | apply hK | omega | rfl | simp <;> omega
 refine awp_ret ?_
 refine ⟨⟨.inr rfl, _, [], (by first | rfl | (simp [tpO, idV]; rfl)), ?_, ?_, ?_, ?_⟩, ?_⟩
 all_goals try simp [tpO, idV]
theorem assigned_fn (R : List (List Int)) (N : List Nat) (hN : NOk R N) (hRl : R.length ≤ 1000) : FnA Tryz.prog 59 [.t 0 (rows R), .t 0 (.sl 1 (idT N))] (.t 2 (ints (asg R N))) := by
 have hNl := hN.len
 have hil : (idT N).length = R.length := by simp [idT, hNl]
 rw [asg_ints]
 refine fn_intro Tryz.func59 rfl (by simp [Tryz.f59]) ?_
 rw [show Tryz.f59.ntmps = 27 from rfl, show Tryz.f59.results = #[.tmp 4] from rfl]
 refine rgS fun K hK => ?_
 simp (disch := omega)
 and_intros <;> try first | apply hK | omega | rfl | simp <;> omega
 refine rgS fun K hK => ?_
 simp (disch := omega)
 and_intros <;> try first | apply hK | omega | rfl | simp <;> omega
 refine awp_seq ?_
 refine rgS fun K hK => ?_
 simp (disch := omega) [hil]
 and_intros <;> try first | apply hK | omega | rfl | simp <;> omega
 refine awp_block ?_
 refine awp_loop (fun k : Nat => mkS [(0, .t 0 (rows R)), (5, .own 0 k), (8, .t 0 (.sl 1 (idT N))), (9, .t 2 (.int .i64 R.length)), (10, .t 2 (.int .i64 k))] [(0, .row 3 1 2 (tab k fun i => .int .i64 (asgF R N i)))] 1 27 [.any, .any]) (fun k => k ≤ R.length) (fun k => R.length - k) ?_ ?_
 ·refine ⟨0, by omega, ?_⟩
  refine wk_list [(0, none)] rfl ?_ ?_ ?_ ?_
  all_goals try simp [hil, hNl]
 intro k hk
 refine rgS fun K hK => ?_
 simp (disch := omega)
 and_intros <;> try first | apply hK | omega | rfl | simp <;> omega
 refine awp_seq ?_
 by_cases hkl : k < R.length
 ·obtain ⟨h1, h2, h3⟩ := hN.at hkl
  have hge : (idT N)[k]? = some (.int .i64 (N[k] : Nat)) := by unfold idT; rw [List.getElem?_map, List.getElem?_eq_getElem h1]; rfl
  have hge' : ∀ h, (idT N)[k]'h = .int .i64 (N[k] : Nat) := fun h => (List.getElem?_eq_some_iff.1 hge).2
  refine condT (by simp [hkl] <;> omega) ?_
  refine awp_skip ?_
  show awp _ _ _ _
  refine awp_seq ?_
  refine awp_block ?_
  refine rgS fun K hK => ?_
  simp (disch := omega) [hil, hkl, hge, hge']
  and_intros <;> try first | apply hK | omega | rfl | simp <;> omega
  refine rgL fun K hK => ?_
  simp (disch := omega) [hkl, h2, h3, hge, hge']
  and_intros <;> try first | apply hK | omega | rfl | simp <;> omega
  show awp _ _ _ _
  refine rgL fun K hK => ?_
  simp (disch := omega)
  (repeat' first | apply hK | apply And.intro) <;> try first | omega | rfl | (simp <;> omega)
  refine ⟨k + 1, by omega, by omega, ?_⟩
  refine wk_list [(0, some 0)] rfl ?_ ?_ ?_ ?_
  all_goals try simp [tab_succ, hge, hge', h3]
 ·obtain rfl : k = R.length := by omega
  refine condF (by simp <;> omega) ?_
  refine awp_exit ?_
  show awp _ _ _ _
  refine rgS fun K hK => ?_
  simp (disch := omega)
  and_intros <;> try first | apply hK | omega | rfl | simp <;> omega
  refine awp_ret ?_
  refine ⟨⟨.inr rfl, _, [], rfl, trivial, trivial, by simp, ?_⟩, by simp⟩
  simp
theorem sameRows_fn (R : List (List Int)) (hRl : R.length ≤ 1000) (hRL : ∀ l ∈ R, l.length ≤ 100000) : FnA Tryz.prog 25 [.t 0 (rows R), .t 0 (rows R)] (.t 2 (.bool true)) := by
 refine fn_intro Tryz.func25 rfl (by simp [Tryz.f25]) ?_
 rw [show Tryz.f25.ntmps = 27 from rfl, show Tryz.f25.results = #[.tmp 4] from rfl]
 refine rgS fun K hK => ?_
 simp (disch := omega)
 and_intros <;> try first | apply hK | omega | rfl | simp <;> omega
 refine awp_seq ?_
 refine rgS fun K hK => ?_
 simp (disch := omega)
 and_intros <;> try first | apply hK | omega | rfl | simp <;> omega
 refine condF (by simp <;> omega) ?_
 refine awp_skip ?_
 show awp _ _ _ _
 refine awp_seq ?_
 refine rgS fun K hK => ?_
 simp (disch := omega)
 and_intros <;> try first | apply hK | omega | rfl | simp <;> omega
 refine awp_block ?_
 refine awp_loop (fun k : Nat => mkS [(0, .t 0 (rows R)), (1, .t 0 (rows R)), (12, .t 2 (.int .i64 R.length)), (13, .t 2 (.int .i64 k))] [] 0 27 [.any, .any]) (fun k => k ≤ R.length) (fun k => R.length - k) ?_ ?_
 ·refine ⟨0, by omega, ?_⟩
  refine wk_list [] rfl ?_ ?_ ?_ ?_
  all_goals try simp
 intro k hk
 refine rgS fun K hK => ?_
 simp (disch := omega)
 and_intros <;> try first | apply hK | omega | rfl | simp <;> omega
 refine awp_seq ?_
 by_cases hkl : k < R.length
 ·have hS := same_fn R[k] R[k] (by have := hRL _ (List.getElem_mem hkl); omega)
  rw [decide_eq_true rfl] at hS
  refine condT (by simp [hkl] <;> omega) ?_
  refine awp_skip ?_
  show awp _ _ _ _
  refine awp_seq ?_
  refine awp_block ?_
  refine rgS fun K hK => ?_
  simp (disch := omega)
  and_intros <;> try first | apply hK | omega | rfl | simp <;> omega
  refine awp_seqD (by kernel_rfl) (fun K hK => ?_)
  simp (disch := omega) [hkl]
  (repeat' apply And.intro)
  all_goals (try omega)
  refine callOD (hS) rfl rfl rfl rfl (by kernel_rfl) (by simp) ?_ ?_
  ·simp
  simp (disch := omega)
  and_intros <;> try first | apply hK | (show chkD _ _ = true; kernel_rfl) | omega | rfl | simp <;> omega
  refine condF (by simp <;> omega) ?_
  refine awp_skip ?_
  show awp _ _ _ _
  refine rgL fun K hK => ?_
  simp (disch := omega)
  (repeat' first | apply hK | apply And.intro) <;> try first | omega | rfl | (simp <;> omega)
  refine ⟨k + 1, by omega, by omega, ?_⟩
  refine wk_list [] rfl ?_ ?_ ?_ ?_
  all_goals try simp
 ·obtain rfl : k = R.length := by omega
  refine condF (by simp <;> omega) ?_
  refine awp_exit ?_
  show awp _ _ _ _
  refine rgS fun K hK => ?_
  simp (disch := omega)
  and_intros <;> try first | apply hK | omega | rfl | simp <;> omega
  refine awp_ret ?_
  refine ⟨⟨.inr rfl, _, [], rfl, trivial, trivial, by simp, ?_⟩, by simp⟩
  simp

set_option maxRecDepth 100000
set_option maxHeartbeats 32000000
attribute [local simp] ints rows scal wr64 wr8
set_option linter.unusedSimpArgs false

theorem empB_take {R : List (List Int)} {j : Nat} (h : j < R.length) : empB (R.take (j + 1)) = (empB (R.take j) || decide (R[j].length = 0)) := by
 unfold empB
 rw [List.take_succ_eq_append_getElem h, List.any_append]
 simp
def zbO : AObj := .box 51 [.t 2 (.sl 0 []), .t 2 (.int .i64 0), .t 2 (.bool false), .t 2 (.bool false)]
def nxR (N : List Nat) : AObj := .row 3 1 2 (idT N)
theorem rBegin_fn (tb : List (List Int)) (n : Nat) (ht : TbL tb n (tabOf tb)) (v1 : vErr tb = 0) (hn : n ≤ 1000) (a b : Tm) (hv : a.val = true ∧ b.val = true) (hi0 : idI (tabOf tb) n = 0) :
  FnA Tryz.prog 24 [.t 0 (rows tb), .t 0 (ints (allL n)), idV 0 a b] (.tup [srV 2 (List.replicate (rngL (tabOf tb) (allL n) a b).length 0) 0 false (empB (rngL (tabOf tb) (allL n) a b)), .t 2 (.int .i64 0)]) := by
 have hRg := rRanges_fn tb n ht v1 hn a b hv hi0
 have hRl := rngL_len (tabOf tb) (allL n) a b
 have hga := gr_6 a (val_ok hv.1).1
 have hgb := gr_6 b (val_ok hv.2).1
 generalize rngL (tabOf tb) (allL n) a b = R at hRg hRl ⊢
 have hil : (idT (List.replicate R.length 0)).length = R.length := by simp [idT]
 refine fn_intro Tryz.func24 rfl (by simp [Tryz.f24]) ?_
 rw [show Tryz.f24.ntmps = 44 from rfl, show Tryz.f24.results = #[.cell 6 51, .tmp 7] from rfl]
 refine rgS fun K hK => ?_
 simp (disch := omega) [idV]
 and_intros <;> try first | apply hK | omega | rfl | simp <;> omega
 refine awp_weak (σ' := mkS [(0, .t 0 (rows tb)), (1, .t 0 (ints (allL n))), (5, .ptr 0 0 6), (6, .ptr 1 0 4)] [(0, ibO a b), (1, zbO)] 2 44 [.any, .any, .any]) ?_ ?_
 ·refine wk_list [(0, some 0), (1, some 1000000)] rfl ?_ ?_ ?_ ?_
  all_goals try simp [idV, ibO, zbO]
 refine rgS fun K hK => ?_
 simp (disch := omega) [ibO, tsIdent]
 (repeat' apply And.intro)
 all_goals (try omega)
 refine callO (hRg) rfl rfl rfl rfl (by kernel_rfl) (by simp) ?_ ?_
 ·simp [idV]
 simp (disch := omega)
 and_intros <;> try first | apply hK | omega | rfl | simp <;> omega
 refine awp_seq ?_
 refine rgS fun K hK => ?_
 simp (disch := omega)
 and_intros <;> try first | apply hK | omega | rfl | simp <;> omega
 refine condF (by simp <;> omega) ?_
 refine awp_skip ?_
 show awp _ _ _ _
 refine awp_weak (σ' := mkS [(6, .ptr 0 0 4), (8, .t 0 (rows R))] [(0, zbO)] 1 44 [.any, .any, .any]) ?_ ?_
 ·refine wk_list [(0, some 1)] rfl ?_ ?_ ?_ ?_
  all_goals try simp [idV, ibO, zbO]
 refine rgS fun K hK => ?_
 simp (disch := omega) [tsSearch]
 and_intros <;> try first | apply hK | omega | rfl | simp <;> omega
 refine awp_weak (σ' := mkS [(6, .ptr 0 0 4), (8, .t 0 (rows R)), (10, .ptr 2 0 4)] [(0, zbO), (1, nxR (List.replicate R.length 0)), (2, srO (.own 1 R.length) 0 false false)] 3 44 [.any, .any, .any]) ?_ ?_
 ·refine wk_list [(0, some 0), (1, some 2000001), (2, some 4000001)] rfl ?_ ?_ ?_ ?_
  all_goals try simp [zbO, srO, nxR, idT_rep, tsSearch]
 refine awp_seq ?_
 refine rgS fun K hK => ?_
 simp (disch := omega)
 and_intros <;> try first | apply hK | omega | rfl | simp <;> omega
 refine awp_block ?_
 refine awp_loop (fun j : Nat => mkS [(6, .ptr 0 0 4), (10, .ptr 2 0 4), (28, .t 0 (rows R)), (29, .t 2 (.int .i64 R.length)), (30, .t 2 (.int .i64 j))] [(0, zbO), (1, nxR (List.replicate R.length 0)), (2, srO (.own 1 R.length) 0 false (empB (R.take j)))] 3 44 [.any, .any, .any]) (fun j => j ≤ R.length) (fun j => R.length - j) ?_ ?_
 ·refine ⟨0, by omega, ?_⟩
  refine wk_list [(0, some 0), (1, some 1), (2, some 2)] rfl ?_ ?_ ?_ ?_
  all_goals try simp [zbO, srO, nxR, empB, hil]
 intro j hj
 obtain ⟨c, hc⟩ : ∃ c, c = empB (R.take j) := ⟨_, rfl⟩
 rw [← hc]
 refine rgS fun K hK => ?_
 simp (disch := omega)
 and_intros <;> try first | apply hK | omega | rfl | simp <;> omega
 refine awp_seq ?_
 by_cases hjl : j < R.length
 case neg =>
  obtain rfl : j = R.length := by omega
  rw [List.take_length] at hc
  refine condF (by simp <;> omega) ?_
  refine awp_exit ?_
  show awp _ _ _ _
  refine rgS fun K hK => ?_
  simp (disch := omega) [srO, tsSearch, zbO]
  and_intros <;> try first | apply hK | omega | rfl | simp <;> omega
  refine awp_ret ?_
  rw [← hc]
  refine ⟨⟨.inr rfl, _, [], (by first | rfl | (simp [tpO, srV, nxR, idV, tsSearch, hil]; rfl)), ?_, ?_, ?_, ?_⟩, ?_⟩
  all_goals try simp [tpO, srV, nxR, idV, tsSearch, hil]
 have hst := empB_take hjl
 rw [← hc] at hst
 refine condT (by simp [hjl] <;> omega) ?_
 refine awp_skip ?_
 show awp _ _ _ _
 refine awp_seq ?_
 refine awp_block ?_
 refine rgS fun K hK => ?_
 simp (disch := omega) [hjl]
 (repeat' first | apply hK | apply And.intro) <;> try first | omega | rfl | (simp <;> omega)
 cases c with
 | true =>
  rw [Bool.true_or] at hst
  refine rgL fun K hK => ?_
  simp (disch := omega) [srO]
  and_intros <;> try first | apply hK | omega | rfl | simp <;> omega
  show awp _ _ _ _
  refine rgL fun K hK => ?_
  simp (disch := omega)
  (repeat' first | apply hK | apply And.intro) <;> try first | omega | rfl | (simp <;> omega)
  refine ⟨j + 1, by omega, by omega, ?_⟩
  refine wk_list [(0, some 0), (1, some 1), (2, some 2)] rfl ?_ ?_ ?_ ?_
  all_goals try simp [zbO, srO, nxR, hil, hst]
 | false =>
  rw [Bool.false_or] at hst
  by_cases h0 : R[j].length = 0
  ·rw [decide_eq_true h0] at hst
   refine rgL fun K hK => ?_
   simp (disch := omega) [srO, h0]
   and_intros <;> try first | apply hK | omega | rfl | simp <;> omega
   show awp _ _ _ _
   refine rgL fun K hK => ?_
   simp (disch := omega)
   (repeat' first | apply hK | apply And.intro) <;> try first | omega | rfl | (simp <;> omega)
   refine ⟨j + 1, by omega, by omega, ?_⟩
   refine wk_list [(0, some 0), (1, some 1), (2, some 2)] rfl ?_ ?_ ?_ ?_
   all_goals try simp [zbO, srO, nxR, hil, hst, h0]
  ·rw [decide_eq_false h0] at hst
   refine rgL fun K hK => ?_
   simp (disch := omega) [srO, h0]
   and_intros <;> try first | apply hK | omega | rfl | simp <;> omega
   show awp _ _ _ _
   refine rgL fun K hK => ?_
   simp (disch := omega)
   (repeat' first | apply hK | apply And.intro) <;> try first | omega | rfl | (simp <;> omega)
   refine ⟨j + 1, by omega, by omega, ?_⟩
   refine wk_list [(0, some 0), (1, some 1), (2, some 2)] rfl ?_ ?_ ?_ ?_
   all_goals try simp [zbO, srO, nxR, hil, hst, h0]

set_option maxRecDepth 100000
set_option maxHeartbeats 32000000
attribute [local simp] ints rows scal wr64 wr8
set_option linter.unusedSimpArgs false

theorem srD_step {v1 v2 : List Nat → Nat} {R : List (List Int)} {B : Nat} (hd : (srD v1 v2 R B).2.2.1 = false) :
  srD v1 v2 R (B + 1) = if v1 (srD v1 v2 R B).2.2.2 ≠ v2 (srD v1 v2 R B).2.2.2 then ((srD v1 v2 R B).1 + 1, true, true, (srD v1 v2 R B).2.2.2)
   else ((srD v1 v2 R B).1 + 1, false, !(advI R (srD v1 v2 R B).2.2.2).2, (advI R (srD v1 v2 R B).2.2.2).1) := by
 rw [srD_add, if_neg (by rw [hd]; decide), runH_succ]
 split
 ·rfl
 ·cases h : (advI R (srD v1 v2 R B).2.2.2).2 with
  | true => rw [if_pos rfl]; rfl
  | false => rw [if_neg (by decide)]; rfl
theorem advG_z (R : List (List Int)) (N : List Nat) : advG R N 0 = (N, false) := rfl
theorem rAdvance_fn (tb : List (List Int)) (n : Nat) (htn : tb.length = n) (v1 : vErr tb = 0) (hn : n ≤ 1000) (hn0 : 0 < n) (a b : Tm) (hv : a.val = true ∧ b.val = true) (hi0 : idI (tabOf tb) n = 0) (B f : Nat) (hB : B ≤ 10000000) (hf1 : 1 ≤ f) (hf2 : f ≤ 1048576) :
  FnA Tryz.prog 28 [.t 0 (rows tb), .t 0 (ints (allL n)), idV 0 a b, srQ 0 (srD (asV (tabOf tb) n (rngL (tabOf tb) (allL n) a b) a) (asV (tabOf tb) n (rngL (tabOf tb) (allL n) a b) b) (rngL (tabOf tb) (allL n) a b) B), .t 2 (.int .i64 (f : Nat))]
   (.tup [srQ 2 (srD (asV (tabOf tb) n (rngL (tabOf tb) (allL n) a b) a) (asV (tabOf tb) n (rngL (tabOf tb) (allL n) a b) b) (rngL (tabOf tb) (allL n) a b) (B + f)), .t 2 (.int .i64 0)]) := by
 have ht : TbL tb n (tabOf tb) := by rw [← htn]; exact TbL.of v1
 have hA : Assoc n (tabOf tb) := by rw [← htn]; exact vErr_asc v1
 have hRg := rRanges_fn tb n ht v1 hn a b hv hi0
 have hId := rIdentity_fn tb n (tabOf tb) ht hn
 rw [hi0] at hId
 have hRl := rngL_len (tabOf tb) (allL n) a b
 have hga := gr_6 a (val_ok hv.1).1
 have hgb := gr_6 b (val_ok hv.2).1
 have hsa := (val_ok hv.1).2
 have hsb := (val_ok hv.2).2
 have hRin : RIn n (rngL (tabOf tb) (allL n) a b) := rngL_in (fun i h => by rw [allL_at]; rw [allL_size] at h; omega) a b
 have hRL : ∀ q ∈ rngL (tabOf tb) (allL n) a b, q.length ≤ 1000 := fun q hq => by
  have := rngL_le a b q hq
  rw [allL_size] at this
  omega
 generalize rngL (tabOf tb) (allL n) a b = R at hRg hRl hRin hRL ⊢
 have hOf : ∀ N, NOk R N → ∀ t : Tm, t.val = true → t.gr ≤ R.length → FnA Tryz.prog 15 [.t 0 (rows tb), .t 2 (.int .i64 0), .t 0 (ints (asg R N)), tmV 0 t] (.t 2 (.int .i64 (asV (tabOf tb) n R t N : Nat))) := fun N hN t htv hg => by
  have := rOf_fn (one := 0) (o1 := 0) tb ht hA hn (asg_in hRin hN) t (val_ok htv).1 (by have := (val_ok htv).2; omega) (by rw [asg_len]; exact hg) (fun _ => ⟨rfl, hn0⟩)
  unfold asV
  rw [hi0]
  exact this
 have hOa := fun N hN => hOf N hN a hv.1 (by omega)
 have hOb := fun N hN => hOf N hN b hv.2 (by omega)
 clear hOf
 generalize asV (tabOf tb) n R a = va at hOa ⊢
 generalize asV (tabOf tb) n R b = vb at hOb ⊢
 have hok := fun j => srD_ok (v1 := va) (v2 := vb) (R := R) j
 have hnd := fun j h => srD_nd (v1 := va) (v2 := vb) (R := R) (B := j) h
 have hfd := fun j => srD_fd (v1 := va) (v2 := vb) (R := R) j
 have hge := fun i j h1 h2 => srD_ge (v1 := va) (v2 := vb) (R := R) (B := i) (C := j) h1 h2
 have hstp := fun j h => srD_step (v1 := va) (v2 := vb) (R := R) (B := j) h
 generalize srD va vb R = S at hok hnd hfd hge hstp ⊢
 have hlen : ∀ j, (idT (S j).2.2.2).length = R.length := fun j => by rw [idT_len]; exact (hok j).1.len
 have hlen2 : ∀ j, (S j).2.2.2.length = R.length := fun j => (hok j).1.len
 obtain ⟨hF, -, hst⟩ := hok B
 have hfd := hfd B
 have hil := hlen B
 have hNl := hF.len
 obtain ⟨st, hst1⟩ : ∃ st, st = (S B).1 := ⟨_, rfl⟩
 obtain ⟨fo, hfo1⟩ : ∃ fo, fo = (S B).2.1 := ⟨_, rfl⟩
 obtain ⟨dn, hdn1⟩ : ∃ dn, dn = (S B).2.2.1 := ⟨_, rfl⟩
 obtain ⟨N, hN1⟩ : ∃ N, N = (S B).2.2.2 := ⟨_, rfl⟩
 have hS0 : srQ 0 (S B) = srV 0 N st fo dn := by unfold srQ; rw [hst1, hfo1, hdn1, hN1]
 rw [← hN1] at hF hil hNl
 rw [← hst1] at hst
 rw [← hfo1, ← hdn1] at hfd
 rw [hS0]
 refine fn_intro Tryz.func28 rfl (by simp [Tryz.f28]) ?_
 rw [show Tryz.f28.ntmps = 183 from rfl, show Tryz.f28.results = #[.cell 10 51, .tmp 11] from rfl]
 refine rgS fun K hK => ?_
 simp (disch := omega) [idV, srV]
 and_intros <;> try first | apply hK | omega | rfl | simp <;> omega
 refine awp_weak (σ' := mkS [(0, .t 0 (rows tb)), (1, .t 0 (ints (allL n))), (4, .t 2 (.int .i64 f)), (7, .ptr 0 0 6), (8, .ptr 2 0 4), (10, .ptr 1 0 4)] [(0, ibO a b), (1, zbO), (2, srO (.t 0 (.sl 1 (idT N))) st fo dn)] 3 183 [.any, .any, .any, .any, .any]) ?_ ?_
 ·refine wk_list [(0, some 0), (1, some 2000000), (2, some 1000000)] rfl ?_ ?_ ?_ ?_
  all_goals try simp [idV, ibO, zbO, srO, srV]
 refine rgS fun K hK => ?_
 simp (disch := omega) [ibO, tsIdent]
 (repeat' apply And.intro)
 all_goals (try omega)
 refine callO (hRg) rfl rfl rfl rfl (by kernel_rfl) (by simp) ?_ ?_
 ·simp [idV]
 simp (disch := omega)
 and_intros <;> try first | apply hK | omega | rfl | simp <;> omega
 refine awp_seq ?_
 refine rgS fun K hK => ?_
 simp (disch := omega)
 and_intros <;> try first | apply hK | omega | rfl | simp <;> omega
 refine condF (by simp <;> omega) ?_
 refine awp_skip ?_
 show awp _ _ _ _
 refine awp_seq ?_
 have hb1 : ¬ ((f : Int) < 1) := by omega
 have hb2 : ¬ ((1048576 : Int) < (f : Int)) := by omega
 refine rgS fun K hK => ?_
 simp (disch := omega) [hb1, hb2]
 and_intros <;> try first | apply hK | omega | rfl | simp <;> omega
 refine condF (by simp <;> omega) ?_
 refine awp_skip ?_
 show awp _ _ _ _
 refine awp_weak (σ' := mkS [(0, .t 0 (rows tb)), (4, .t 2 (.int .i64 f)), (7, .ptr 0 0 6), (8, .ptr 2 0 4), (10, .ptr 1 0 4), (12, .t 0 (rows R))] [(0, ibO a b), (1, zbO), (2, srO (.t 0 (.sl 1 (idT N))) st fo dn)] 3 183 [.any, .any, .any, .any, .any]) ?_ ?_
 ·refine wk_list [(0, some 0), (1, some 1), (2, some 2)] rfl ?_ ?_ ?_ ?_
  all_goals try simp [idV, ibO, zbO, srO, srV]
 have h1 : ¬ ((4611686018427387904 : Int) < (st : Int)) := by omega
 have h2 : ¬ ((st : Int) < 0) := by omega
 refine awp_seq (awp_mono (Q := fun e σ => e = Exit.normal ∧ Wk σ (mkS [(0, .t 0 (rows tb)), (4, .t 2 (.int .i64 f)), (7, .ptr 0 0 6), (8, .ptr 2 0 4), (10, .ptr 1 0 4), (12, .t 0 (rows R))] [(0, ibO a b), (1, zbO), (2, srO (.t 0 (.sl 1 (idT N))) st fo dn)] 3 183 [.any, .any, .any, .any, .any])) ?_ ?_)
 ·clear hfo1 hdn1 hS0
  cases fo with
  | false =>
   refine rgS fun K hK => ?_
   simp (disch := omega) [srO, hil, h1, h2]
   and_intros <;> try first | apply hK | omega | rfl | simp <;> omega
   refine condF (by simp <;> omega) ?_
   refine awp_skip ?_
   refine ⟨rfl, ?_⟩
   refine wk_list [(0, some 0), (1, some 1), (2, some 2)] rfl ?_ ?_ ?_ ?_
   all_goals try simp [idV, ibO, zbO, srO, srV]
  | true =>
   obtain rfl : dn = true := hfd rfl
   refine rgS fun K hK => ?_
   simp (disch := omega) [srO, hil, h1, h2]
   and_intros <;> try first | apply hK | omega | rfl | simp <;> omega
   refine condF (by simp <;> omega) ?_
   refine awp_skip ?_
   refine ⟨rfl, ?_⟩
   refine wk_list [(0, some 0), (1, some 1), (2, some 2)] rfl ?_ ?_ ?_ ?_
   all_goals try simp [idV, ibO, zbO, srO, srV]
 rintro e σ ⟨rfl, hw⟩
 refine awp_weak hw ?_
 clear hw
 show awp _ _ _ _
 refine awp_seq ?_
 refine rgS fun K hK => ?_
 simp (disch := omega) [srO, tsSearch, hil]
 and_intros <;> try first | apply hK | omega | rfl | simp <;> omega
 refine awp_block ?_
 refine awp_loop (fun k : Nat => mkS [(0, .t 0 (rows tb)), (4, .t 2 (.int .i64 f)), (7, .ptr 0 0 6), (8, .ptr 2 0 4), (10, .ptr 1 0 4), (12, .t 0 (rows R)), (68, .t 0 (.sl 1 (idT N))), (69, .t 2 (.int .i64 R.length)), (70, .t 2 (.int .i64 k))] [(0, ibO a b), (1, zbO), (2, srO (.t 0 (.sl 1 (idT N))) st fo dn)] 3 183 [.any, .any, .any, .any, .any]) (fun k => k ≤ R.length) (fun k => R.length - k) ?_ ?_
 ·refine ⟨0, by omega, ?_⟩
  refine wk_list [(0, some 0), (1, some 1), (2, some 2)] rfl ?_ ?_ ?_ ?_
  all_goals try simp [idV, ibO, zbO, srO, srV, hil]
 intro k hk
 refine rgS fun K hK => ?_
 simp (disch := omega)
 and_intros <;> try first | apply hK | omega | rfl | simp <;> omega
 refine awp_seq ?_
 by_cases hkR : k < R.length
 ·have hkl : k < N.length := by omega
  have hlt := hF.lt k hkR hkl
  have hge2 : (idT N)[k]? = some (.int .i64 (N[k] : Nat)) := by unfold idT; rw [List.getElem?_map, List.getElem?_eq_getElem hkl]; rfl
  obtain ⟨x, hx⟩ : ∃ x, x = N[k] := ⟨_, rfl⟩
  rw [← hx] at hge2 hlt
  have hge' : ∀ h, (idT N)[k]'h = .int .i64 (x : Nat) := fun h => (List.getElem?_eq_some_iff.1 hge2).2
  have hx0 : ¬ ((x : Int) < 0) := by omega
  refine condT (by simp [hkR] <;> omega) ?_
  refine awp_skip ?_
  show awp _ _ _ _
  refine awp_seq ?_
  refine awp_block ?_
  refine rgS fun K hK => ?_
  simp (disch := omega) [hkR, hge2, hge', hil]
  and_intros <;> try first | apply hK | omega | rfl | simp <;> omega
  refine awp_weak (σ' := mkS [(0, .t 0 (rows tb)), (4, .t 2 (.int .i64 f)), (7, .ptr 0 0 6), (8, .ptr 2 0 4), (10, .ptr 1 0 4), (12, .t 0 (rows R)), (14, .t 2 (.int .i64 k)), (15, .t 2 (.int .i64 x)), (68, .t 0 (.sl 1 (idT N))), (69, .t 2 (.int .i64 R.length)), (70, .t 2 (.int .i64 k))] [(0, ibO a b), (1, zbO), (2, srO (.t 0 (.sl 1 (idT N))) st fo dn)] 3 183 [.any, .any, .any, .any, .any]) ?_ ?_
  ·refine wk_list [(0, some 0), (1, some 1), (2, some 2)] rfl ?_ ?_ ?_ ?_
   all_goals try simp [idV, ibO, zbO, srO, srV, hge', lvT]
  by_cases hL1 : R[k].length < 1
  ·have hx2 : x = 0 := by omega
   refine rgS fun K hK => ?_
   simp (disch := omega) [hkR, hx2, hL1]
   and_intros <;> try first | apply hK | omega | rfl | simp <;> omega
   refine condF (by simp <;> omega) ?_
   refine awp_skip ?_
   show awp _ _ _ _
   refine rgL fun K hK => ?_
   simp (disch := omega)
   (repeat' first | apply hK | apply And.intro) <;> try first | omega | rfl | (simp <;> omega)
   refine ⟨k + 1, by omega, by omega, ?_⟩
   refine wk_list [(0, some 0), (1, some 1), (2, some 2)] rfl ?_ ?_ ?_ ?_
   all_goals try simp [idV, ibO, zbO, srO, srV]
  ·have hx1 : ¬ R[k].length ≤ x := by omega
   have hL2 : R[k].length ≠ 0 := by omega
   refine rgS fun K hK => ?_
   simp (disch := omega) [hkR, hx0, hL1, hL2, hx1]
   and_intros <;> try first | apply hK | omega | rfl | simp <;> omega
   refine condF (by simp <;> omega) ?_
   refine awp_skip ?_
   show awp _ _ _ _
   refine rgL fun K hK => ?_
   simp (disch := omega)
   (repeat' first | apply hK | apply And.intro) <;> try first | omega | rfl | (simp <;> omega)
   refine ⟨k + 1, by omega, by omega, ?_⟩
   refine wk_list [(0, some 0), (1, some 1), (2, some 2)] rfl ?_ ?_ ?_ ?_
   all_goals try simp [idV, ibO, zbO, srO, srV]
 obtain rfl : k = R.length := by omega
 refine condF (by simp <;> omega) ?_
 refine awp_exit ?_
 show awp _ _ _ _
 refine awp_seqD (by kernel_rfl) (fun K hK => ?_)
 simp (disch := omega) [srO, tsSearch, hil]
 (repeat' first | apply hK | apply And.intro) <;> try first | (show chkD _ _ = true; kernel_rfl) | omega | rfl | (simp <;> omega)
 have hlv := lvs_idT 0 N
 refine awp_weak (σ' := mkS [(0, .t 0 (rows tb)), (4, .t 2 (.int .i64 f)), (7, .ptr 0 0 6), (10, .ptr 1 0 4), (12, .t 0 (rows R)), (16, .ptr 3 0 4)] [(0, ibO a b), (1, zbO), (2, nxR N), (3, srO (.own 2 R.length) st fo dn)] 4 183 [.any, .any, .any, .any, .any]) ?_ ?_
 ·refine wk_list [(0, some 0), (1, some 1), (2, some 1000003), (3, some 12000003)] rfl ?_ ?_ ?_ ?_
  all_goals try simp [idV, ibO, zbO, srO, srV, nxR, hlv, hil]
 clear hlv h1 h2 hF hil hNl hfd hS0
 subst hst1 hfo1 hdn1 hN1
 refine rgS fun K hK => ?_
 simp (disch := omega)
 (repeat' apply And.intro)
 all_goals (try omega)
 refine callO (hId) rfl rfl rfl rfl (by kernel_rfl) (by simp) ?_ ?_
 ·simp
 simp (disch := omega)
 and_intros <;> try first | apply hK | omega | rfl | simp <;> omega
 refine awp_seq ?_
 refine rgS fun K hK => ?_
 simp (disch := omega)
 and_intros <;> try first | apply hK | omega | rfl | simp <;> omega
 refine awp_block ?_
 refine awp_loop (fun k : Nat => mkS [(0, .t 0 (rows tb)), (4, .t 2 (.int .i64 f)), (7, .ptr 0 0 6), (10, .ptr 1 0 4), (12, .t 0 (rows R)), (16, .ptr 3 0 4), (17, .t 2 (.int .i64 0)), (18, .t 2 (.int .i64 k))] [(0, ibO a b), (1, zbO), (2, nxR (S (B + k)).2.2.2), (3, srO (.own 2 R.length) (S (B + k)).1 (S (B + k)).2.1 (S (B + k)).2.2.1)] 4 183 [.any, .any, .any, .any, .any]) (fun k => k ≤ f) (fun k => f - k) ?_ ?_
 ·refine ⟨0, by omega, ?_⟩
  refine wk_list [(0, some 0), (1, some 1), (2, some 2), (3, some 3)] rfl ?_ ?_ ?_ ?_
  all_goals try simp [idV, ibO, zbO, srO, srV, nxR, hlen]
 intro k hk
 have hlk := hlen (B + k)
 have hlk1 := hlen (B + (k + 1))
 refine awp_seq ?_
 by_cases hcont : k < f ∧ (S (B + k)).2.2.1 = false
 case neg =>
  have hfin : S (B + f) = S (B + k) := by
   by_cases hkf : k < f
   ·refine hge (B + k) (B + f) (by omega) ?_
    cases h : (S (B + k)).2.2.1 with
    | true => rfl
    | false => exact absurd ⟨hkf, h⟩ hcont
   ·rw [show k = f by omega]
  rw [hfin]
  by_cases hkf : k < f
  ·have hdt : (S (B + k)).2.2.1 = true := by
    cases h : (S (B + k)).2.2.1 with
    | true => rfl
    | false => exact absurd ⟨hkf, h⟩ hcont
   refine rgS fun K hK => ?_
   simp (disch := omega) [hkf, srO, hdt]
   and_intros <;> try first | apply hK | omega | rfl | simp <;> omega
   refine condF (by simp [hkf, hdt] <;> omega) ?_
   refine awp_exit ?_
   show awp _ _ _ _
   refine rgS fun K hK => ?_
   simp (disch := omega) [srO, tsSearch, zbO]
   and_intros <;> try first | apply hK | omega | rfl | simp <;> omega
   refine awp_ret ?_
   refine ⟨⟨.inr rfl, _, [], (by first | rfl | (simp [tpO, srQ, srV, nxR, idV, tsSearch, hlk, hdt]; rfl)), ?_, ?_, ?_, ?_⟩, ?_⟩
   all_goals try simp [tpO, srQ, srV, nxR, idV, tsSearch, hlk, hdt]
  ·refine rgS fun K hK => ?_
   simp (disch := omega) [hkf]
   and_intros <;> try first | apply hK | omega | rfl | simp <;> omega
   refine condF (by simp [hkf] <;> omega) ?_
   refine awp_exit ?_
   show awp _ _ _ _
   refine rgS fun K hK => ?_
   simp (disch := omega) [srO, tsSearch, zbO]
   and_intros <;> try first | apply hK | omega | rfl | simp <;> omega
   refine awp_ret ?_
   refine ⟨⟨.inr rfl, _, [], (by first | rfl | (simp [tpO, srQ, srV, nxR, idV, tsSearch, hlk]; rfl)), ?_, ?_, ?_, ?_⟩, ?_⟩
   all_goals try simp [tpO, srQ, srV, nxR, idV, tsSearch, hlk]
 obtain ⟨hkf, hdn⟩ := hcont
 obtain ⟨hem, hsk, hfo⟩ := hnd _ hdn
 have hNk := (hok (B + k)).2.1 hdn
 have hst1 := hstp _ hdn
 rw [show B + k + 1 = B + (k + 1) by omega] at hst1
 rw [hdn, hfo]
 have hstB := (hok (B + k)).2.2
 generalize (S (B + k)).2.2.2 = N at hNk hst1 hlk ⊢
 generalize (S (B + k)).1 = st at hst1 hstB ⊢
 refine rgS fun K hK => ?_
 simp (disch := omega) [hkf, srO]
 and_intros <;> try first | apply hK | omega | rfl | simp <;> omega
 refine condT (by simp [hkf] <;> omega) ?_
 refine awp_skip ?_
 show awp _ _ _ _
 refine awp_seq ?_
 refine awp_block ?_
 refine awp_seq ?_
 refine rgS fun K hK => ?_
 simp (disch := omega)
 and_intros <;> try first | apply hK | omega | rfl | simp <;> omega
 refine awp_block ?_
 refine awp_loop (fun j : Nat => mkS [(0, .t 0 (rows tb)), (4, .t 2 (.int .i64 f)), (7, .ptr 0 0 6), (10, .ptr 1 0 4), (12, .t 0 (rows R)), (16, .ptr 3 0 4), (17, .t 2 (.int .i64 0)), (18, .t 2 (.int .i64 k)), (112, .t 0 (rows R)), (113, .t 2 (.int .i64 R.length)), (114, .t 2 (.int .i64 j))] [(0, ibO a b), (1, zbO), (2, nxR N), (3, srO (.own 2 R.length) st false false)] 4 183 [.any, .any, .any, .any, .any]) (fun j => j ≤ R.length) (fun j => R.length - j) ?_ ?_
 ·refine ⟨0, by omega, ?_⟩
  refine wk_list [(0, some 0), (1, some 1), (2, some 2), (3, some 3)] rfl ?_ ?_ ?_ ?_
  all_goals try simp [idV, ibO, zbO, srO, srV, nxR]
 intro j hj
 refine rgS fun K hK => ?_
 simp (disch := omega)
 and_intros <;> try first | apply hK | omega | rfl | simp <;> omega
 refine awp_seq ?_
 by_cases hjl : j < R.length
 ·have h0 : ¬ R[j].length = 0 := by have := empB_no hem hjl; omega
  refine condT (by simp [hjl] <;> omega) ?_
  refine awp_skip ?_
  show awp _ _ _ _
  refine awp_seq ?_
  refine awp_block ?_
  refine rgS fun K hK => ?_
  simp (disch := omega) [hjl]
  and_intros <;> try first | apply hK | omega | rfl | simp <;> omega
  refine rgS fun K hK => ?_
  simp (disch := omega) [h0]
  and_intros <;> try first | apply hK | omega | rfl | simp <;> omega
  refine condF (by simp [h0] <;> omega) ?_
  refine awp_skip ?_
  show awp _ _ _ _
  refine rgL fun K hK => ?_
  simp (disch := omega)
  (repeat' first | apply hK | apply And.intro) <;> try first | omega | rfl | (simp <;> omega)
  refine ⟨j + 1, by omega, by omega, ?_⟩
  refine wk_list [(0, some 0), (1, some 1), (2, some 2), (3, some 3)] rfl ?_ ?_ ?_ ?_
  all_goals try simp [idV, ibO, zbO, srO, srV, nxR]
 obtain rfl : j = R.length := by omega
 have hOa := hOa N hNk
 have hOb := hOb N hNk
 have hAs := assigned_fn R N hNk (by omega)
 refine condF (by simp <;> omega) ?_
 refine awp_exit ?_
 show awp _ _ _ _
 refine rgS fun K hK => ?_
 simp (disch := omega) [srO]
 and_intros <;> try first | apply hK | omega | rfl | simp <;> omega
 refine awp_weak (σ' := mkS [(0, .t 0 (rows tb)), (4, .t 2 (.int .i64 f)), (7, .ptr 0 0 6), (10, .ptr 1 0 4), (12, .t 0 (rows R)), (16, .ptr 3 0 4), (17, .t 2 (.int .i64 0)), (18, .t 2 (.int .i64 k))] [(0, ibO a b), (1, zbO), (2, nxR N), (3, srO (.own 2 R.length) (st + 1) false false)] 4 183 [.any, .any, .any, .any, .any]) ?_ ?_
 ·refine wk_list [(0, some 0), (1, some 1), (2, some 2), (3, some 3)] rfl ?_ ?_ ?_ ?_
  all_goals try simp [idV, ibO, zbO, srO, srV, nxR]
 refine rgS fun K hK => ?_
 simp (disch := omega) [srO, tsSearch]
 (repeat' apply And.intro)
 all_goals (try omega)
 refine callO (hAs) rfl rfl rfl rfl (by kernel_rfl) (by simp) ?_ ?_
 ·simp [nxR, hlk]
 simp (disch := omega)
 and_intros <;> try first | apply hK | omega | rfl | simp <;> omega
 refine awp_seq ?_
 refine awp_seqD (by kernel_rfl) (fun K hK => ?_)
 simp (disch := omega) [ibO, tsTerm]
 (repeat' apply And.intro)
 all_goals (try omega)
 refine callOD (hOa) rfl rfl rfl rfl (by kernel_rfl) (by simp) ?_ ?_
 ·simp [tmV]
 simp (disch := omega) [ibO, tsTerm]
 (repeat' apply And.intro)
 all_goals (try omega)
 refine callOD (hOb) rfl rfl rfl rfl (by kernel_rfl) (by simp) ?_ ?_
 ·simp [tmV]
 simp (disch := omega)
 (repeat' first | apply hK | apply And.intro) <;> try first | (show chkD _ _ = true; kernel_rfl) | omega | rfl | (simp <;> omega)
 by_cases hne : va N ≠ vb N
 ·rw [if_pos hne] at hst1
  have hb : ((va N : Int) != (vb N : Int)) = true := by rw [bne_iff_ne]; omega
  have hfin : S (B + f) = (st + 1, true, true, N) := by rw [← hst1]; exact hge (B + (k + 1)) (B + f) (by omega) (by rw [hst1])
  rw [hfin]
  refine condT (by simp [hb] <;> omega) ?_
  refine rgS fun K hK => ?_
  simp (disch := omega) [srO]
  and_intros <;> try first | apply hK | omega | rfl | simp <;> omega
  refine awp_exit ?_
  show awp _ _ _ _
  refine rgS fun K hK => ?_
  simp (disch := omega) [srO, tsSearch, zbO]
  and_intros <;> try first | apply hK | omega | rfl | simp <;> omega
  refine awp_ret ?_
  refine ⟨⟨.inr rfl, _, [], (by first | rfl | (simp [tpO, srQ, srV, nxR, idV, tsSearch, hlk]; rfl)), ?_, ?_, ?_, ?_⟩, ?_⟩
  all_goals try simp [tpO, srQ, srV, nxR, idV, tsSearch, hlk]
 rw [if_neg hne] at hst1
 have hb : ((va N : Int) != (vb N : Int)) = false := by
  have : va N = vb N := Decidable.not_not.1 hne
  rw [this]; simp
 refine condF (by simp [hb] <;> omega) ?_
 refine awp_skip ?_
 show awp _ _ _ _
 refine rgS fun K hK => ?_
 simp (disch := omega)
 and_intros <;> try first | apply hK | omega | rfl | simp <;> omega
 refine awp_seq ?_
 refine awp_block ?_
 refine awp_loop (fun y : Nat × List Nat => mkS [(0, .t 0 (rows tb)), (4, .t 2 (.int .i64 f)), (7, .ptr 0 0 6), (10, .ptr 1 0 4), (12, .t 0 (rows R)), (16, .ptr 3 0 4), (17, .t 2 (.int .i64 0)), (18, .t 2 (.int .i64 k)), (22, .t 2 (.int .i64 ((y.1 : Nat) - 1 : Int)))] [(0, ibO a b), (1, zbO), (2, nxR y.2), (3, srO (.own 2 R.length) (st + 1) false false)] 4 183 [.any, .any, .any, .any, .any]) (fun y => y.1 ≤ R.length ∧ NOk R y.2 ∧ advI R N = advG R y.2 y.1) (fun y => y.1) ?_ ?_
 ·refine ⟨(R.length, N), ⟨Nat.le_refl _, hNk, rfl⟩, ?_⟩
  refine wk_list [(0, some 0), (1, some 1), (2, some 2), (3, some 3)] rfl ?_ ?_ ?_ ?_
  all_goals try simp [idV, ibO, zbO, srO, srV, nxR]
 rintro ⟨i, M⟩ ⟨hi, hM, hex⟩
 simp only at hi hM hex
 rw [hex] at hst1
 have hMl : (idT M).length = R.length := by rw [idT_len]; exact hM.len
 refine awp_seq ?_
 rcases i with _ | i
 ·rw [advG_z] at hst1
  refine awp_seqD (by kernel_rfl) (fun K hK => ?_)
  simp (disch := omega)
  and_intros <;> try first | apply hK | (show chkD _ _ = true; kernel_rfl) | omega | rfl | simp <;> omega
  refine condF (by simp <;> omega) ?_
  refine awp_exit ?_
  show awp _ _ _ _
  refine rgS fun K hK => ?_
  simp (disch := omega)
  and_intros <;> try first | apply hK | omega | rfl | simp <;> omega
  refine condT (by simp <;> omega) ?_
  refine rgL fun K hK => ?_
  simp (disch := omega) [srO]
  and_intros <;> try first | apply hK | omega | rfl | simp <;> omega
  show awp _ _ _ _
  refine rgL fun K hK => ?_
  simp (disch := omega)
  (repeat' first | apply hK | apply And.intro) <;> try first | omega | rfl | (simp <;> omega)
  refine ⟨k + 1, by omega, by omega, ?_⟩
  rw [hst1]
  refine wk_list [(0, some 0), (1, some 1), (2, some 2), (3, some 3)] rfl ?_ ?_ ?_ ?_
  all_goals try simp [idV, ibO, zbO, srO, srV, nxR]
 ·have hil : i < R.length := by omega
  obtain ⟨h1, h2, h3⟩ := hM.at hil
  have e1 : M.getD i 0 = M[i] := by simp [h1]
  have e2 : R.getD i [] = R[i] := by simp [hil]
  have hRi := hRL R[i] (List.getElem_mem hil)
  have hget2 : (idT M)[i]? = some (.int .i64 (M[i] : Nat)) := by unfold idT; rw [List.getElem?_map, List.getElem?_eq_getElem h1]; rfl
  have hget3 : ∀ h, (idT M)[i]'h = .int .i64 (M[i] : Nat) := fun h => (List.getElem?_eq_some_iff.1 hget2).2
  have hset : (idT M).set i (.int .i64 ((M[i] : Nat) + 1 : Int)) = idT (M.set i (M[i] + 1)) := idT_set M i (M[i] + 1)
  have hset2 : (idT M).set i (.int .i64 0) = idT (M.set i 0) := by rw [← Int.natCast_zero, idT_set]
  have hadv : advG R M (i + 1) = if M[i] + 1 < R[i].length then (M.set i (M[i] + 1), true) else advG R (M.set i 0) i := by rw [advG, e1, e2]
  generalize hm : M[i] = mi at h2 h3 hset hget2 hget3 hadv
  have hi0 : ¬ ((i : Int) < 0) := by omega
  by_cases hlt : mi + 1 < R[i].length
  ·rw [if_pos hlt] at hadv
   rw [hadv] at hst1
   have hq : ((mi : Int) == (R[i].length : Int) - 1) = false := beq_eq_false_iff_ne.2 (by omega)
   refine awp_seqD (by kernel_rfl) (fun K hK => ?_)
   simp (disch := omega) [srO, nxR, hMl, hil, hget2, hget3, hq]
   and_intros <;> try first | apply hK | (show chkD _ _ = true; kernel_rfl) | omega | rfl | simp <;> omega
   refine condF (by simp <;> omega) ?_
   refine awp_exit ?_
   show awp _ _ _ _
   refine rgS fun K hK => ?_
   simp (disch := omega)
   and_intros <;> try first | apply hK | omega | rfl | simp <;> omega
   refine condF (by simp <;> omega) ?_
   refine rgL fun K hK => ?_
   simp (disch := omega) [srO, nxR, hMl, hil, hget2, hget3, hset]
   and_intros <;> try first | apply hK | omega | rfl | simp <;> omega
   show awp _ _ _ _
   refine rgL fun K hK => ?_
   simp (disch := omega)
   (repeat' first | apply hK | apply And.intro) <;> try first | omega | rfl | (simp <;> omega)
   refine ⟨k + 1, by omega, by omega, ?_⟩
   rw [hst1]
   refine wk_list [(0, some 0), (1, some 1), (2, some 2), (3, some 3)] rfl ?_ ?_ ?_ ?_
   all_goals try simp [idV, ibO, zbO, srO, srV, nxR]
  ·rw [if_neg hlt] at hadv
   have hq : ((mi : Int) == (R[i].length : Int) - 1) = true := by rw [beq_iff_eq]; omega
   have hM0 : NOk R (M.set i 0) := hM.set fun _ => by rw [e2]; omega
   refine awp_seqD (by kernel_rfl) (fun K hK => ?_)
   simp (disch := omega) [srO, nxR, hMl, hil, hget2, hget3, hq]
   and_intros <;> try first | apply hK | (show chkD _ _ = true; kernel_rfl) | omega | rfl | simp <;> omega
   refine condT (by simp <;> omega) ?_
   refine awp_skip ?_
   show awp _ _ _ _
   refine awp_block ?_
   refine rgS fun K hK => ?_
   simp (disch := omega) [srO, nxR, hMl, hil, hget2, hget3, hset2]
   and_intros <;> try first | apply hK | omega | rfl | simp <;> omega
   refine rgL fun K hK => ?_
   simp (disch := omega)
   (repeat' first | apply hK | apply And.intro) <;> try first | omega | rfl | (simp <;> omega)
   refine ⟨(i, M.set i 0), ⟨by omega, hM0, by rw [hex]; exact hadv⟩, by simp only; omega, ?_⟩
   refine wk_list [(0, some 0), (1, some 1), (2, some 2), (3, some 3)] rfl ?_ ?_ ?_ ?_
   all_goals try simp [idV, ibO, zbO, srO, srV, nxR]

set_option maxRecDepth 100000
set_option maxHeartbeats 32000000
attribute [local simp] ints rows scal wr64 wr8
set_option linter.unusedSimpArgs false

theorem vio_e {tb : List (List Int)} {set : List Int} {a b : Tm} (h0 : huErr tb set a b = 0) {f : Nat} (hf1 : 1 ≤ f) (hf2 : f ≤ 1048576) (he : empB (rngL (tabOf tb) set a b) = true) : vioP tb set a b f = ([], 0, 9) := by
 unfold vioP
 rw [if_neg (by rw [h0]; decide), if_neg (by omega), if_pos he]
theorem vio_n {tb : List (List Int)} {set : List Int} {a b : Tm} (h0 : huErr tb set a b = 0) {f : Nat} (hf1 : 1 ≤ f) (hf2 : f ≤ 1048576) (he : empB (rngL (tabOf tb) set a b) = false) {s : Nat} {fo dn : Bool} {N : List Nat}
  (hS : srD (asV (tabOf tb) tb.length (rngL (tabOf tb) set a b) a) (asV (tabOf tb) tb.length (rngL (tabOf tb) set a b) b) (rngL (tabOf tb) set a b) f = (s, fo, dn, N)) :
  vioP tb set a b f = if fo = true then (asg (rngL (tabOf tb) set a b) N, s, 0) else if dn = true then ([], s, 9) else ([], 0, 7) := by
 unfold vioP vioR
 rw [if_neg (by rw [h0]; decide), if_neg (by omega), if_neg (by rw [he]; decide), Int.toNat_natCast]
 unfold srD at hS
 rw [if_neg (by rw [he]; decide)] at hS
 rw [hS]
theorem rViolated_fn' (tb : List (List Int)) (v1 : vErr tb = 0) (hn : tb.length ≤ 1000) (hn0 : 0 < tb.length) (a b : Tm) (hv : a.val = true ∧ b.val = true) (hi0 : idI (tabOf tb) tb.length = 0) (f : Nat) (hf1 : 1 ≤ f) (hf2 : f ≤ 1048576) :
  FnA Tryz.prog 29 [.t 0 (rows tb), .t 0 (ints (allL tb.length)), idV 0 a b, .t 2 (.int .i64 f)] (vioA (vioP tb (allL tb.length) a b f)) := by
 have ht := TbL.of v1
 have hE0 := huErr_all v1 hi0 hv
 have hBg := rBegin_fn tb tb.length ht v1 hn a b hv hi0
 have hAd := rAdvance_fn tb tb.length rfl v1 hn hn0 a b hv hi0 0 f (by omega) hf1 hf2
 rw [Nat.zero_add, srD_0] at hAd
 have hRg := rRanges_fn tb tb.length ht v1 hn a b hv hi0
 have hRl := rngL_len (tabOf tb) (allL tb.length) a b
 have hga := gr_6 a (val_ok hv.1).1
 have hgb := gr_6 b (val_ok hv.2).1
 have hvn := fun he s fo dn N hS => vio_n (tb := tb) (set := allL tb.length) (a := a) (b := b) hE0 hf1 hf2 he (s := s) (fo := fo) (dn := dn) (N := N) hS
 have hve := fun he => vio_e (tb := tb) (set := allL tb.length) (a := a) (b := b) hE0 hf1 hf2 he
 have hok := srD_ok (v1 := asV (tabOf tb) tb.length (rngL (tabOf tb) (allL tb.length) a b) a) (v2 := asV (tabOf tb) tb.length (rngL (tabOf tb) (allL tb.length) a b) b) (R := rngL (tabOf tb) (allL tb.length) a b) f
 have hfd := srD_fd (v1 := asV (tabOf tb) tb.length (rngL (tabOf tb) (allL tb.length) a b) a) (v2 := asV (tabOf tb) tb.length (rngL (tabOf tb) (allL tb.length) a b) b) (R := rngL (tabOf tb) (allL tb.length) a b) f
 have hno : empB (rngL (tabOf tb) (allL tb.length) a b) = false → NOk (rngL (tabOf tb) (allL tb.length) a b) (srD (asV (tabOf tb) tb.length (rngL (tabOf tb) (allL tb.length) a b) a) (asV (tabOf tb) tb.length (rngL (tabOf tb) (allL tb.length) a b) b) (rngL (tabOf tb) (allL tb.length) a b) f).2.2.2 := fun he => by
  unfold srD
  rw [if_neg (by rw [he]; decide)]
  exact (runH_ok f 0 (zero_ok he)).1
 generalize srD (asV (tabOf tb) tb.length (rngL (tabOf tb) (allL tb.length) a b) a) (asV (tabOf tb) tb.length (rngL (tabOf tb) (allL tb.length) a b) b) (rngL (tabOf tb) (allL tb.length) a b) f = S at hAd hvn hok hfd hno
 generalize rngL (tabOf tb) (allL tb.length) a b = R at hBg hAd hRg hRl hvn hve hok hno
 obtain ⟨s, fo, dn, N⟩ := S
 have hvn := fun he => hvn he s fo dn N rfl
 generalize vioP tb (allL tb.length) a b f = vio at hvn hve ⊢
 simp only at hok hfd hno
 have hzl : (idT (List.replicate R.length 0)).length = R.length := by simp [idT]
 have hNl : (idT N).length = R.length := by rw [idT_len]; exact hok.1.len
 refine fn_intro Tryz.func29 rfl (by simp [Tryz.f29]) ?_
 rw [show Tryz.f29.ntmps = 66 from rfl, show Tryz.f29.results = #[.tmp 8, .tmp 9, .tmp 10] from rfl]
 refine rgS fun K hK => ?_
 simp (disch := omega) [idV]
 and_intros <;> try first | apply hK | omega | rfl | simp <;> omega
 refine awp_weak (σ' := mkS [(0, .t 0 (rows tb)), (1, .t 0 (ints (allL tb.length))), (3, .t 2 (.int .i64 f)), (6, .ptr 0 0 6)] [(0, ibO a b)] 1 66 [.any, .any, .any, .any]) ?_ ?_
 ·refine wk_list [(0, some 0)] rfl ?_ ?_ ?_ ?_
  all_goals try simp [idV, ibO]
 refine rgS fun K hK => ?_
 simp (disch := omega) [ibO, tsIdent]
 (repeat' apply And.intro)
 all_goals (try omega)
 refine callO (hBg) rfl rfl rfl rfl (by kernel_rfl) (by simp) ?_ ?_
 ·simp [idV]
 simp (disch := omega) [srV, tsSearch]
 and_intros <;> try first | apply hK | omega | rfl | simp <;> omega
 refine awp_weak (σ' := mkS [(0, .t 0 (rows tb)), (1, .t 0 (ints (allL tb.length))), (3, .t 2 (.int .i64 f)), (6, .ptr 0 0 6), (11, .ptr 1 0 4), (12, .t 2 (.int .i64 0))] [(0, ibO a b), (1, srO (.t 0 (.sl 1 (idT (List.replicate R.length 0)))) 0 false (empB R))] 2 66 [.any, .any, .any, .any]) ?_ ?_
 ·refine wk_list [(0, some 0), (1, some 7000001)] rfl ?_ ?_ ?_ ?_
  all_goals try simp [idV, ibO, srO, srV, tsSearch]
 refine awp_seq ?_
 refine rgS fun K hK => ?_
 simp (disch := omega)
 and_intros <;> try first | apply hK | omega | rfl | simp <;> omega
 refine condF (by simp <;> omega) ?_
 refine awp_skip ?_
 show awp _ _ _ _
 refine awp_seq ?_
 cases he : empB R with
 | true =>
  rw [hve he]
  have hb1 : ¬ ((f : Int) < 1) := by omega
  have hb2 : ¬ ((1048576 : Int) < (f : Int)) := by omega
  refine rgS fun K hK => ?_
  simp (disch := omega) [srO, he]
  and_intros <;> try first | apply hK | omega | rfl | simp <;> omega
  refine condT (by simp <;> omega) ?_
  refine awp_seq ?_
  refine rgS fun K hK => ?_
  simp (disch := omega) [hb1, hb2]
  and_intros <;> try first | apply hK | omega | rfl | simp <;> omega
  refine condF (by simp <;> omega) ?_
  refine awp_skip ?_
  show awp _ _ _ _
  refine rgS fun K hK => ?_
  simp (disch := omega)
  and_intros <;> try first | apply hK | omega | rfl | simp <;> omega
  refine awp_ret ?_
  refine ⟨⟨.inr rfl, _, [], rfl, trivial, trivial, by simp [vioA, idV], ?_⟩, by simp [vioA, idV]⟩
  simp [vioA, idV]
 | false =>
 rw [he] at hAd
 rw [hvn he]
 have hNk := hno he
 refine rgS fun K hK => ?_
 simp (disch := omega) [srO, he]
 and_intros <;> try first | apply hK | omega | rfl | simp <;> omega
 refine condF (by simp <;> omega) ?_
 refine awp_skip ?_
 show awp _ _ _ _
 refine rgS fun K hK => ?_
 simp (disch := omega) [ibO, tsIdent, srO, tsSearch]
 (repeat' apply And.intro)
 all_goals (try omega)
 refine callO (hAd) rfl rfl rfl rfl (by kernel_rfl) (by simp) ?_ ?_
 ·simp [idV, srQ, srV]
 simp (disch := omega) [srQ, srV, srO, tsSearch]
 and_intros <;> try first | apply hK | omega | rfl | simp <;> omega
 refine awp_weak (σ' := mkS [(0, .t 0 (rows tb)), (1, .t 0 (ints (allL tb.length))), (6, .ptr 0 0 6), (11, .ptr 1 0 4), (12, .t 2 (.int .i64 0))] [(0, ibO a b), (1, srO (.t 0 (.sl 1 (idT N))) s fo dn)] 2 66 [.any, .any, .any, .any]) ?_ ?_
 ·refine wk_list [(0, some 0), (1, some 1)] rfl ?_ ?_ ?_ ?_
  all_goals try simp [idV, ibO, srO, srV, tsSearch]
 refine awp_seq ?_
 refine rgS fun K hK => ?_
 simp (disch := omega)
 and_intros <;> try first | apply hK | omega | rfl | simp <;> omega
 refine condF (by simp <;> omega) ?_
 refine awp_skip ?_
 show awp _ _ _ _
 refine awp_seq ?_
 cases fo with
 | false =>
  rw [if_neg (by decide)]
  cases dn with
  | false =>
   rw [if_neg (by decide)]
   refine rgS fun K hK => ?_
   simp (disch := omega) [srO]
   and_intros <;> try first | apply hK | omega | rfl | simp <;> omega
   refine condT (by simp <;> omega) ?_
   refine rgS fun K hK => ?_
   simp (disch := omega)
   and_intros <;> try first | apply hK | omega | rfl | simp <;> omega
   refine awp_ret ?_
   refine ⟨⟨.inr rfl, _, [], rfl, trivial, trivial, by simp [vioA, idV], ?_⟩, by simp [vioA, idV]⟩
   simp [vioA, idV]
  | true =>
   rw [if_pos rfl]
   refine rgS fun K hK => ?_
   simp (disch := omega) [srO]
   and_intros <;> try first | apply hK | omega | rfl | simp <;> omega
   refine condF (by simp <;> omega) ?_
   refine awp_skip ?_
   show awp _ _ _ _
   refine awp_seq ?_
   refine rgS fun K hK => ?_
   simp (disch := omega) [srO]
   and_intros <;> try first | apply hK | omega | rfl | simp <;> omega
   refine condT (by simp <;> omega) ?_
   refine awp_seqD (by kernel_rfl) (fun K hK => ?_)
   simp (disch := omega) [srO]
   and_intros <;> try first | apply hK | (show chkD _ _ = true; kernel_rfl) | omega | rfl | simp <;> omega
   refine awp_ret ?_
   refine ⟨⟨.inr rfl, _, [], rfl, trivial, trivial, by simp [vioA, idV], ?_⟩, by simp [vioA, idV]⟩
   simp [vioA, idV]
 | true =>
  obtain rfl : dn = true := hfd rfl
  rw [if_pos rfl]
  have hAs := assigned_fn R N hNk (by omega)
  refine rgS fun K hK => ?_
  simp (disch := omega) [srO]
  and_intros <;> try first | apply hK | omega | rfl | simp <;> omega
  refine condF (by simp <;> omega) ?_
  refine awp_skip ?_
  show awp _ _ _ _
  refine awp_seq ?_
  refine rgS fun K hK => ?_
  simp (disch := omega) [srO]
  and_intros <;> try first | apply hK | omega | rfl | simp <;> omega
  refine condF (by simp <;> omega) ?_
  refine awp_skip ?_
  show awp _ _ _ _
  refine rgS fun K hK => ?_
  simp (disch := omega) [ibO, tsIdent]
  (repeat' apply And.intro)
  all_goals (try omega)
  refine callO (hRg) rfl rfl rfl rfl (by kernel_rfl) (by simp) ?_ ?_
  ·simp [idV]
  simp (disch := omega)
  and_intros <;> try first | apply hK | omega | rfl | simp <;> omega
  refine awp_seqD (by kernel_rfl) (fun K hK => ?_)
  simp (disch := omega) [srO, tsSearch]
  (repeat' apply And.intro)
  all_goals (try omega)
  refine callOD (hAs) rfl rfl rfl rfl (by kernel_rfl) (by simp) ?_ ?_
  ·simp
  simp (disch := omega) [srO]
  and_intros <;> try first | apply hK | (show chkD _ _ = true; kernel_rfl) | omega | rfl | simp <;> omega
  refine awp_ret ?_
  refine ⟨⟨.inr rfl, _, [], rfl, trivial, trivial, by simp [vioA, idV], ?_⟩, by simp [vioA, idV]⟩
  simp [vioA, idV]
  all_goals rfl
theorem rViolated_fn (tb : List (List Int)) (v1 : vErr tb = 0) (hn : tb.length ≤ 1000) (hn0 : 0 < tb.length) (a b : Tm) (hv : a.val = true ∧ b.val = true) (hi0 : idI (tabOf tb) tb.length = 0) (f : Nat) (hf1 : 1 ≤ f) (hf2 : f ≤ 1048576) :
  FnA Tryz.prog 29 [.t 0 (rows tb), .t 0 (ints (allL tb.length)), idV 0 a b, .t 2 (.int .i64 f)] (vioV (vioP tb (allL tb.length) a b f)) :=
 FnS.res' (rViolated_fn' tb v1 hn hn0 a b hv hi0 f hf1 hf2) fun E v h => h.upT ⟨fun E v h => by
  by_cases e : (vioP tb (allL tb.length) a b f).2.2 = 0
  ·rw [if_pos e] at h; exact h
  ·rw [if_neg e] at h; rw [vioP_err e]; exact h.nil3 1, fun _ _ h => h, fun _ _ h => h, trivial⟩

set_option maxRecDepth 100000
set_option maxHeartbeats 32000000
attribute [local simp] ints rows scal wr64 wr8
set_option linter.unusedSimpArgs false

theorem vio_len {tb : List (List Int)} {set : List Int} {a b : Tm} {f : Int} : (vioP tb set a b f).1.length ≤ (rngL (tabOf tb) set a b).length := by
 unfold vioP
 split
 ·exact Nat.zero_le _
 split
 ·exact Nat.zero_le _
 split
 ·exact Nat.zero_le _
 split
 ·simp
 split
 ·exact Nat.zero_le _
 ·exact Nat.zero_le _
def srB' (q : Nat × Bool × Bool × List Nat) : AObj := srO (.t 0 (.sl 1 (idT q.2.2.2))) q.1 q.2.1 q.2.2.1
theorem omegaSearches_fn (l : List Int) (bud : Int) : FnA Tryz.prog 5 [.t 1 (ints l), .t 2 (.int .i64 bud)] (.t 2 (.bool true)) := by
 have hnew := new_fn l
 obtain ⟨xs, hxs⟩ : ∃ xs, xs = l.take 80 := ⟨_, rfl⟩
 have hl : xs.length ≤ 80 := by rw [hxs]; simp; omega
 rw [← hxs] at hnew
 obtain ⟨res, H', ⟨tb, b, hTb, hb, rfl, rfl⟩, hT⟩ := table28_fn xs 0 9 (by omega) hl (by omega)
 obtain ⟨v1, hi0, htb0, htb⟩ := hTb.ok (by omega) (by omega)
 obtain ⟨res, H', ⟨u, v, b1, hu, hv, hb1, rfl, rfl⟩, hI⟩ := identity28_fn xs b hb hl
 have hM := mod_fn bud 300 (by omega)
 have hr := modI_in (x := bud) (n := 300) (by omega)
 obtain ⟨m, hm⟩ : ∃ m : Nat, modI bud 300 = (m : Int) := ⟨(modI bud 300).toNat, by omega⟩
 rw [hm] at hM hr
 obtain ⟨f, hf⟩ : ∃ f, f = m + 1 := ⟨_, rfl⟩
 have hfm : (1 : Int) + (m : Int) = (f : Int) := by omega
 have ht := TbL.of v1
 have hAll := all28_fn tb (by omega)
 have hE0 := huErr_all v1 hi0 ⟨hu, hv⟩
 have hsl : (allL tb.length).length ≤ 100000 := by rw [allL_size]; omega
 have hR1 := oRanges_fn tb (allL tb.length) u v hsl hE0
 have hR2 := rRanges_fn tb tb.length ht v1 (by omega) u v ⟨hu, hv⟩ hi0
 have hB1 := begin_fn tb (allL tb.length) u v hsl hE0
 have hB2 := rBegin_fn tb tb.length ht v1 (by omega) u v ⟨hu, hv⟩ hi0
 have hA1 := advance_fn tb (allL tb.length) u v hsl hE0 0 f (by omega) (by omega) (by omega)
 have hA2 := rAdvance_fn tb tb.length rfl v1 (by omega) htb0 u v ⟨hu, hv⟩ hi0 0 f (by omega) (by omega) (by omega)
 rw [Nat.zero_add, srD_0] at hA1 hA2
 have hV1 := violated_fn tb (allL tb.length) u v hsl f
 have hV2 := rViolated_fn tb v1 (by omega) htb0 u v ⟨hu, hv⟩ hi0 f (by omega) (by omega)
 have hvl := vio_len (tb := tb) (set := allL tb.length) (a := u) (b := v) (f := f)
 have hRl := rngL_len (tabOf tb) (allL tb.length) u v
 have hgu := gr_6 u (val_ok hu).1
 have hgv := gr_6 v (val_ok hv).1
 have hRL : ∀ q ∈ rngL (tabOf tb) (allL tb.length) u v, q.length ≤ 100000 := fun q hq => by
  have := rngL_le u v q hq
  rw [allL_size] at this
  omega
 have hok := srD_ok (v1 := asV (tabOf tb) tb.length (rngL (tabOf tb) (allL tb.length) u v) u) (v2 := asV (tabOf tb) tb.length (rngL (tabOf tb) (allL tb.length) u v) v) (R := rngL (tabOf tb) (allL tb.length) u v) f
 generalize srD (asV (tabOf tb) tb.length (rngL (tabOf tb) (allL tb.length) u v) u) (asV (tabOf tb) tb.length (rngL (tabOf tb) (allL tb.length) u v) v) (rngL (tabOf tb) (allL tb.length) u v) f = S at hA1 hA2 hok
 generalize rngL (tabOf tb) (allL tb.length) u v = R at hR1 hR2 hB1 hB2 hA1 hA2 hvl hRl hRL hok
 generalize vioP tb (allL tb.length) u v f = vio at hV1 hV2 hvl
 obtain ⟨vw, vs, ve⟩ := vio
 simp only at hvl
 have hSR := sameRows_fn R (by omega) hRL
 have hS0 := sameS_fn (List.replicate R.length 0) (by simp; omega) 0 false (empB R)
 have hS1 := sameS_fn S.2.2.2 (by have := hok.1.len; omega) S.1 S.2.1 S.2.2.1
 have hSm := same_fn vw vw (by omega)
 rw [decide_eq_true rfl] at hSm
 have hsv0 : srQ 0 (0, false, empB R, List.replicate R.length 0) = srV 0 (List.replicate R.length 0) 0 false (empB R) := rfl
 rw [hsv0] at hA1 hA2
 clear hsv0
 generalize hset : allL tb.length = set at hAll hR1 hR2 hB1 hB2 hA1 hA2 hV1 hV2
 refine fn_intro Tryz.func5 rfl (by simp [Tryz.f5]) ?_
 rw [show Tryz.f5.ntmps = 149 from rfl, show Tryz.f5.results = #[.tmp 4] from rfl]
 refine rgS fun K hK => ?_
 simp (disch := omega)
 and_intros <;> try first | apply hK | omega | rfl | simp <;> omega
 refine rgS fun K hK => ?_
 simp (disch := omega)
 (repeat' apply And.intro)
 all_goals (try omega)
 refine call_rule (caps := []) (hnew) [] [2000000] 1 rfl rfl rfl rfl (by kernel_rfl) (by simp) ?_ ?_ (by simp) rfl (by simp) ⟨.inl ⟨by omega, by omega⟩, trivial⟩ (by simp [tpO]) ?_
 ·simp [tpO]
 ·trivial
 simp (disch := omega) [tpO]
 and_intros <;> try first | apply hK | omega | rfl | simp <;> omega
 refine awp_weak (σ' := mkS [(1, .t 2 (.int .i64 bud)), (5, .ptr 0 0 2)] [(0, tpO 1 xs 0)] 1 149 [.any, .any]) ?_ ?_
 ·refine wk_list [(0, some 2000000)] rfl ?_ ?_ ?_ ?_
  all_goals try simp [tpO]
 refine rgS fun K hK => ?_
 simp (disch := omega)
 (repeat' apply And.intro)
 all_goals (try omega)
 refine call_rule (caps := []) (hT) [0] [0] 1 rfl rfl rfl rfl (by kernel_rfl) (by simp) ?_ ?_ (by simp) rfl (by simp) ⟨.inr ⟨rfl, 0, _, _, _, _, _, rfl, rfl, rfl, rfl, rfl⟩, trivial⟩ (by simp [tpO]) ?_
 ·simp [tpO]
 ·simp [tpO]
 simp (disch := omega) [tpO]
 (repeat' apply And.intro)
 all_goals (try omega)
 refine call_rule (caps := []) (hI) [0] [0] 1 rfl rfl rfl rfl (by kernel_rfl) (by simp) ?_ ?_ (by simp) rfl (by simp) ⟨.inr ⟨rfl, 0, _, _, _, _, _, rfl, rfl, rfl, rfl, rfl⟩, trivial⟩ (by simp [tpO]) ?_
 ·simp [tpO, idV]
 ·simp [tpO, idV]
 simp (disch := omega) [tpO, idV, tsIdent]
 and_intros <;> try first | apply hK | omega | rfl | simp <;> omega
 refine awp_weak (σ' := mkS [(1, .t 2 (.int .i64 bud)), (6, .t 2 (rows tb)), (7, .ptr 0 0 6)] [(0, ibO u v)] 1 149 [.any, .any]) ?_ ?_
 ·refine wk_list [(0, some 4000001)] rfl ?_ ?_ ?_ ?_
  all_goals try simp [tpO, ibO, idV]
 refine rgS fun K hK => ?_
 simp (disch := omega)
 (repeat' apply And.intro)
 all_goals (try omega)
 refine callO (hM) rfl rfl rfl rfl (by kernel_rfl) (by simp) ?_ ?_
 ·simp
 simp (disch := omega) [hfm]
 and_intros <;> try first | apply hK | omega | rfl | simp <;> omega
 refine awp_seqD (by kernel_rfl) (fun K hK => ?_)
 simp (disch := omega)
 (repeat' apply And.intro)
 all_goals (try omega)
 refine callOD (hAll) rfl rfl rfl rfl (by kernel_rfl) (by simp) ?_ ?_
 ·simp
 simp (disch := omega) [ibO, tsIdent]
 (repeat' apply And.intro)
 all_goals (try omega)
 refine callOD (hR1) rfl rfl rfl rfl (by kernel_rfl) (by simp) ?_ ?_
 ·simp [idV]
 simp (disch := omega)
 and_intros <;> try first | apply hK | (show chkD _ _ = true; kernel_rfl) | omega | rfl | simp <;> omega
 refine awp_seqD (by kernel_rfl) (fun K hK => ?_)
 simp (disch := omega)
 (repeat' apply And.intro)
 all_goals (try omega)
 refine callOD (hAll) rfl rfl rfl rfl (by kernel_rfl) (by simp) ?_ ?_
 ·simp
 simp (disch := omega) [ibO, tsIdent]
 (repeat' apply And.intro)
 all_goals (try omega)
 refine callOD (hR2) rfl rfl rfl rfl (by kernel_rfl) (by simp) ?_ ?_
 ·simp [idV]
 simp (disch := omega)
 and_intros <;> try first | apply hK | (show chkD _ _ = true; kernel_rfl) | omega | rfl | simp <;> omega
 refine awp_weak (σ' := mkS [(1, .t 2 (.int .i64 f)), (6, .t 2 (rows tb)), (7, .ptr 0 0 6), (8, .t 0 (rows R)), (9, .t 2 (.int .i64 0)), (10, .t 0 (rows R)), (11, .t 2 (.int .i64 0))] [(0, ibO u v)] 1 149 [.any, .any]) ?_ ?_
 ·refine wk_list [(0, some 0)] rfl ?_ ?_ ?_ ?_
  all_goals try simp [ibO, idV]
 refine awp_seqD (by kernel_rfl) (fun K hK => ?_)
 simp (disch := omega)
 (repeat' apply And.intro)
 all_goals (try omega)
 refine callOD (hAll) rfl rfl rfl rfl (by kernel_rfl) (by simp) ?_ ?_
 ·simp
 simp (disch := omega) [ibO, tsIdent]
 (repeat' apply And.intro)
 all_goals (try omega)
 refine callOD (hB1) rfl rfl rfl rfl (by kernel_rfl) (by simp) ?_ ?_
 ·simp [idV]
 simp (disch := omega) [srV, tsSearch]
 and_intros <;> try first | apply hK | (show chkD _ _ = true; kernel_rfl) | omega | rfl | simp <;> omega
 refine awp_seqD (by kernel_rfl) (fun K hK => ?_)
 simp (disch := omega)
 (repeat' apply And.intro)
 all_goals (try omega)
 refine callOD (hAll) rfl rfl rfl rfl (by kernel_rfl) (by simp) ?_ ?_
 ·simp
 simp (disch := omega) [ibO, tsIdent]
 (repeat' apply And.intro)
 all_goals (try omega)
 refine callOD (hB2) rfl rfl rfl rfl (by kernel_rfl) (by simp) ?_ ?_
 ·simp [idV]
 simp (disch := omega) [srV, tsSearch]
 and_intros <;> try first | apply hK | (show chkD _ _ = true; kernel_rfl) | omega | rfl | simp <;> omega
 refine awp_weak (σ' := mkS [(1, .t 2 (.int .i64 f)), (6, .t 2 (rows tb)), (7, .ptr 0 0 6), (8, .t 0 (rows R)), (9, .t 2 (.int .i64 0)), (10, .t 0 (rows R)), (11, .t 2 (.int .i64 0)), (12, .ptr 1 0 4), (13, .t 2 (.int .i64 0)), (14, .ptr 2 0 4), (15, .t 2 (.int .i64 0))] [(0, ibO u v), (1, srO (.t 0 (.sl 1 (idT (List.replicate R.length 0)))) 0 false (empB R)), (2, srO (.t 0 (.sl 1 (idT (List.replicate R.length 0)))) 0 false (empB R))] 3 149 [.any, .any]) ?_ ?_
 ·refine wk_list [(0, some 0), (1, some 8000001), (2, some 19000001)] rfl ?_ ?_ ?_ ?_
  all_goals try simp [ibO, idV, srO, srV, tsSearch]
 refine awp_seq ?_
 refine rgS fun K hK => ?_
 simp (disch := omega)
 (repeat' apply And.intro)
 all_goals (try omega)
 refine callO (hSR) (by simp) rfl rfl rfl (by kernel_rfl) (by simp) ?_ ?_
 ·simp
 simp (disch := omega) [srO, tsSearch]
 (repeat' apply And.intro)
 all_goals (try omega)
 refine callO (hS0) (by simp [srV]) rfl rfl rfl (by kernel_rfl) (by simp) ?_ ?_
 ·simp [srV]
 simp (disch := omega)
 and_intros <;> try first | apply hK | omega | rfl | simp <;> omega
 refine condF (by simp <;> omega) ?_
 refine awp_skip ?_
 show awp _ _ _ _
 refine awp_weak (σ' := mkS [(1, .t 2 (.int .i64 f)), (6, .t 2 (rows tb)), (7, .ptr 0 0 6), (12, .ptr 1 0 4), (14, .ptr 2 0 4)] [(0, ibO u v), (1, srO (.t 0 (.sl 1 (idT (List.replicate R.length 0)))) 0 false (empB R)), (2, srO (.t 0 (.sl 1 (idT (List.replicate R.length 0)))) 0 false (empB R))] 3 149 [.any, .any]) ?_ ?_
 ·refine wk_list [(0, some 0), (1, some 1), (2, some 2)] rfl ?_ ?_ ?_ ?_
  all_goals try simp [ibO, idV, srO, srV, tsSearch]
 refine awp_seqD (by kernel_rfl) (fun K hK => ?_)
 simp (disch := omega)
 (repeat' apply And.intro)
 all_goals (try omega)
 refine callOD (hAll) rfl rfl rfl rfl (by kernel_rfl) (by simp) ?_ ?_
 ·simp
 simp (disch := omega) [ibO, tsIdent, tsSearch, srO]
 (repeat' apply And.intro)
 all_goals (try omega)
 refine callOD (hA1) rfl rfl rfl rfl (by kernel_rfl) (by simp) ?_ ?_
 ·simp [idV, srQ, srV]
 simp (disch := omega) [srQ, srV, srO, tsSearch]
 and_intros <;> try first | apply hK | (show chkD _ _ = true; kernel_rfl) | omega | rfl | simp <;> omega
 refine awp_seqD (by kernel_rfl) (fun K hK => ?_)
 simp (disch := omega)
 (repeat' apply And.intro)
 all_goals (try omega)
 refine callOD (hAll) rfl rfl rfl rfl (by kernel_rfl) (by simp) ?_ ?_
 ·simp
 simp (disch := omega) [ibO, tsIdent, tsSearch, srO]
 (repeat' apply And.intro)
 all_goals (try omega)
 refine callOD (hA2) rfl rfl rfl rfl (by kernel_rfl) (by simp) ?_ ?_
 ·simp [idV, srQ, srV]
 simp (disch := omega) [srQ, srV, srO, tsSearch]
 and_intros <;> try first | apply hK | (show chkD _ _ = true; kernel_rfl) | omega | rfl | simp <;> omega
 refine awp_weak (σ' := mkS [(1, .t 2 (.int .i64 f)), (6, .t 2 (rows tb)), (7, .ptr 0 0 6), (12, .ptr 1 0 4), (13, .t 2 (.int .i64 0)), (14, .ptr 2 0 4), (15, .t 2 (.int .i64 0))] [(0, ibO u v), (1, srB' S), (2, srB' S)] 3 149 [.any, .any]) ?_ ?_
 ·refine wk_list [(0, some 0), (1, some 1), (2, some 2)] rfl ?_ ?_ ?_ ?_
  all_goals try simp [ibO, idV, srO, srV, srQ, srB', tsSearch]
 refine awp_seqD (by kernel_rfl) (fun K hK => ?_)
 simp (disch := omega)
 (repeat' apply And.intro)
 all_goals (try omega)
 refine callOD (hAll) rfl rfl rfl rfl (by kernel_rfl) (by simp) ?_ ?_
 ·simp
 simp (disch := omega) [ibO, tsIdent]
 (repeat' apply And.intro)
 all_goals (try omega)
 refine callOD (hV1) rfl rfl rfl rfl (by kernel_rfl) (by simp) ?_ ?_
 ·simp [idV]
 simp (disch := omega) [vioV]
 and_intros <;> try first | apply hK | (show chkD _ _ = true; kernel_rfl) | omega | rfl | simp <;> omega
 refine awp_seqD (by kernel_rfl) (fun K hK => ?_)
 simp (disch := omega)
 (repeat' apply And.intro)
 all_goals (try omega)
 refine callOD (hAll) rfl rfl rfl rfl (by kernel_rfl) (by simp) ?_ ?_
 ·simp
 simp (disch := omega) [ibO, tsIdent]
 (repeat' apply And.intro)
 all_goals (try omega)
 refine callOD (hV2) rfl rfl rfl rfl (by kernel_rfl) (by simp) ?_ ?_
 ·simp [idV]
 simp (disch := omega) [vioV]
 and_intros <;> try first | apply hK | (show chkD _ _ = true; kernel_rfl) | omega | rfl | simp <;> omega
 refine awp_weak (σ' := mkS [(12, .ptr 1 0 4), (13, .t 2 (.int .i64 0)), (14, .ptr 2 0 4), (15, .t 2 (.int .i64 0)), (16, .t 0 (ints vw)), (17, .t 2 (.int .i64 vs)), (18, .t 2 (.int .i64 ve)), (19, .t 0 (ints vw)), (20, .t 2 (.int .i64 vs)), (21, .t 2 (.int .i64 ve))] [(0, ibO u v), (1, srB' S), (2, srB' S)] 3 149 [.any, .any]) ?_ ?_
 ·refine wk_list [(0, some 0), (1, some 1), (2, some 2)] rfl ?_ ?_ ?_ ?_
  all_goals try simp [ibO, idV, srO, srV, srQ, srB', tsSearch]
 refine rgS fun K hK => ?_
 simp (disch := omega) [srB', srO, tsSearch]
 (repeat' apply And.intro)
 all_goals (try omega)
 refine callO (hS1) (by simp [srV]) rfl rfl rfl (by kernel_rfl) (by simp) ?_ ?_
 ·simp [srV]
 simp (disch := omega)
 (repeat' apply And.intro)
 all_goals (try omega)
 refine callO (hSm) (by simp) rfl rfl rfl (by kernel_rfl) (by simp) ?_ ?_
 ·simp
 simp (disch := omega)
 (repeat' apply And.intro)
 all_goals (try omega)
 refine callO (known28_fn) (by simp) rfl rfl rfl (by kernel_rfl) (by simp) ?_ ?_
 ·simp
 simp (disch := omega)
 and_intros <;> try first | apply hK | omega | rfl | simp <;> omega
 refine awp_ret ?_
 refine ⟨⟨.inr rfl, _, [], rfl, trivial, trivial, by simp, ?_⟩, by simp⟩
 simp
end Go.Proofs.YtghnmmfkckneaaaGreat.M
