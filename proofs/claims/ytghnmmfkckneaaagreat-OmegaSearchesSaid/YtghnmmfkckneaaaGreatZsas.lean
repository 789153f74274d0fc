/-
  Walks in my logic: the methods of a hunt keep the row of indices.
-/
import Derived.Test.YtghnmmfkckneaaaGreatZsaq
import Derived.Test.YtghnmmfkckneaaaGreatZsar
namespace Go.Proofs.YtghnmmfkckneaaaGreat.M
open Go.RowKit
set_option linter.unusedVariables false
set_option maxRecDepth 100000
set_option maxHeartbeats 32000000
attribute [local simp] ints rows scal wr64 wr8
set_option linter.unusedSimpArgs false
theorem hvaluesK (pa pb : List (Int × Int)) (R : List (List Int)) (hRl : R.length ≤ 1000) (tb : List (List Int)) (T : Nat → Nat → Nat) (n : Nat) (one : Int) (u : Nat → Bool) (N : List Nat) (hN : NOk R N) :
  FnK Tryz.prog 37 [.ptr 0 0 5] [huO pa pb R 1 2, mcO tb T n one u, nxO N] (.own 3 R.length) [huO pa pb R 1 2, mcO tb T n one u, nxO N, vaO R (asgF R N)] [2] := by
 have hNl := hN.len
 refine fn_introK 2 R.length rfl rfl (by simp [idT, hN.len]) (by simp [idT, hN.len]) Tryz.func37 rfl (by simp [Tryz.f37]) ?_
 rw [show Tryz.f37.ntmps = 37 from rfl, show Tryz.f37.results = #[.tmp 2] from rfl]
 refine rgS fun K hK => ?_
 simp (disch := omega)
 and_intros <;> try first | apply hK | omega | rfl | simp <;> omega
 refine rgS fun K hK => ?_
 simp (disch := omega) [huO, nxO, hNl]
 and_intros <;> try first | apply hK | omega | rfl | simp <;> omega
 refine awp_seq ?_
 refine rgS fun K hK => ?_
 simp (disch := omega) [huO, nxO, hNl]
 and_intros <;> try first | apply hK | omega | rfl | simp <;> omega
 refine awp_block ?_
 refine awp_loop (fun k : Nat => mkS [(0, .ptr 0 0 5), (3, .own 3 R.length), (15, .own 2 R.length), (16, .t 2 (.int .i64 R.length)), (17, .t 2 (.int .i64 k))] [(0, huO pa pb R 1 2), (1, mcO tb T n one u), (2, nxO N), (3, vaO R fun i => if i < k then asgF R N i else 0)] 4 37 [.ptr 0 0 5, .own 2 R.length]) (fun k => k ≤ R.length) (fun k => R.length - k) ?_ ?_
 ·refine ⟨0, by omega, ?_⟩
  refine wk_list [(0, some 0), (1, some 1), (2, some 2), (3, some 6000003)] rfl ?_ ?_ ?_ ?_
  all_goals try simp [huO, mcO, mcC_wk, nxO, vaO, rep_tab, pgT]
 intro k hk
 refine rgS fun K hK => ?_
 simp (disch := omega)
 and_intros <;> try first | apply hK | omega | rfl | simp <;> omega
 refine awp_seq ?_
 by_cases hkl : k < R.length
 ·obtain ⟨h1, h2, h3⟩ := hN.at hkl
  refine condT (by simp [hkl] <;> omega) ?_
  refine awp_skip ?_
  show awp _ _ _ _
  refine awp_seq ?_
  refine awp_block ?_
  refine rgS fun K hK => ?_
  simp (disch := omega) [nxO, idT, hNl, hkl, h1]
  and_intros <;> try first | apply hK | omega | rfl | simp <;> omega
  refine rgL fun K hK => ?_
  simp (disch := omega) [huO, vaO, hkl, h2, h3]
  and_intros <;> try first | apply hK | omega | rfl | simp <;> omega
  show awp _ _ _ _
  refine rgL fun K hK => ?_
  simp (disch := omega)
  (repeat' first | apply hK | apply And.intro) <;> try first | omega | rfl | (simp <;> omega)
  refine ⟨k + 1, by omega, by omega, ?_⟩
  refine wk_list [(0, some 0), (1, some 1), (2, some 2), (3, some 3)] rfl ?_ ?_ ?_ ?_
  all_goals try simp [huO, mcO, mcC_wk, nxO, vaO, idT, pgT]
  rw [tab_set]
  refine tab_congr (fun i hi => ?_)
  by_cases e : i = k
  ·subst e; simp
  ·rw [if_neg e]
   by_cases e2 : i < k
   ·rw [if_pos e2, if_pos (by omega)]
   ·rw [if_neg e2, if_neg (by omega)]
 ·obtain rfl : k = R.length := by omega
  refine condF (by simp <;> omega) ?_
  refine awp_exit ?_
  show awp _ _ _ _
  refine rgS fun K hK => ?_
  simp (disch := omega)
  and_intros <;> try first | apply hK | omega | rfl | simp <;> omega
  refine awp_ret ?_
  refine ⟨⟨.inr rfl, _, [(0, some 0), (1, some 1), (2, some 2), (3, some 3)], (by first | rfl | (simp [tpO, huO, mcO, mcC_wk, nxO, vaO, idT, pgT]; rfl)), ?_, ?_, ?_, ?_⟩, ?_⟩
  all_goals try simp [tpO, huO, mcO, mcC_wk, nxO, vaO, idT, pgT]
  exact tab_congr (fun i hi => by rw [if_pos hi])
theorem hadvanceK (pa pb : List (Int × Int)) (R : List (List Int)) (hRl : R.length ≤ 1000) (hRL : ∀ l ∈ R, l.length ≤ 100000) (tb : List (List Int)) (T : Nat → Nat → Nat) (n : Nat) (one : Int) (u : Nat → Bool) (N : List Nat) (hN : NOk R N) :
  FnK Tryz.prog 73 [.ptr 0 0 5] [huO pa pb R 1 2, mcO tb T n one u, nxO N] (.t 2 (.bool (advI R N).2)) [huO pa pb R 1 2, mcO tb T n one u, nxO (advI R N).1] [2] := by
 refine fn_introK 2 R.length rfl rfl (by simp [idT, hN.len]) (by simp [idT, (advI_ok hN).len]) Tryz.func73 rfl (by simp [Tryz.f73]) ?_
 rw [show Tryz.f73.ntmps = 45 from rfl, show Tryz.f73.results = #[.tmp 2] from rfl]
 have hNl := hN.len
 refine rgS fun K hK => ?_
 simp (disch := omega)
 and_intros <;> try first | apply hK | omega | rfl | simp <;> omega
 refine awp_seq ?_
 refine rgS fun K hK => ?_
 simp (disch := omega) [huO, nxO, hNl]
 and_intros <;> try first | apply hK | omega | rfl | simp <;> omega
 refine awp_block ?_
 refine awp_loop (fun y : Nat × List Nat => mkS [(0, .ptr 0 0 5), (3, .t 2 (.int .i64 ((y.1 : Nat) - 1 : Int)))] [(0, huO pa pb R 1 2), (1, mcO tb T n one u), (2, nxO y.2)] 3 45 [.ptr 0 0 5, .own 2 R.length]) (fun y => y.1 ≤ R.length ∧ NOk R y.2 ∧ advI R N = advG R y.2 y.1) (fun y => y.1) ?_ ?_
 ·refine ⟨(R.length, N), ⟨Nat.le_refl _, hN, rfl⟩, ?_⟩
  refine wk_list [(0, some 0), (1, some 1), (2, some 2)] rfl ?_ ?_ ?_ ?_
  all_goals try simp [huO, mcO, mcC_wk, nxO, pgT]
 rintro ⟨i, M⟩ ⟨hi, hM, hex⟩
 simp only at hi hM hex
 rw [hex]
 have hMl := hM.len
 refine awp_seq ?_
 rcases i with _ | i
 ·refine rgS fun K hK => ?_
  simp (disch := omega)
  and_intros <;> try first | apply hK | omega | rfl | simp <;> omega
  refine condF (by simp <;> omega) ?_
  refine awp_exit ?_
  show awp _ _ _ _
  refine rgS fun K hK => ?_
  simp (disch := omega)
  and_intros <;> try first | apply hK | omega | rfl | simp <;> omega
  refine awp_ret ?_
  refine ⟨⟨.inr rfl, _, [(0, some 0), (1, some 1), (2, some 2)], (by first | rfl | (simp [tpO, huO, mcO, mcC_wk, nxO, pgT, advG]; rfl)), ?_, ?_, ?_, ?_⟩, ?_⟩
  all_goals try simp [tpO, huO, mcO, mcC_wk, nxO, pgT, advG]
 ·have hil : i < R.length := by omega
  obtain ⟨h1, h2, h3⟩ := hM.at hil
  have e1 : M.getD i 0 = M[i] := by simp [h1]
  have e2 : R.getD i [] = R[i] := by simp [hil]
  have hRi := hRL R[i] (List.getElem_mem hil)
  rw [advG, e1, e2]
  have hset : (idT M).set i (.int .i64 ((M[i] : Nat) + 1 : Int)) = idT (M.set i (M[i] + 1)) := idT_set M i (M[i] + 1)
  have hset2 : (idT (M.set i (M[i] + 1))).set i (.int .i64 0) = idT (M.set i 0) := by rw [← Int.natCast_zero, idT_set, List.set_set]
  have hget : (M.set i (M[i] + 1))[i]? = some (M[i] + 1) := by simp [h1]
  have hget2 : (idT M)[i]? = some (.int .i64 (M[i] : Nat)) := by unfold idT; rw [List.getElem?_map, List.getElem?_eq_getElem h1]; rfl
  have hget3 : (idT (M.set i (M[i] + 1)))[i]? = some (.int .i64 ((M[i] : Nat) + 1 : Int)) := by unfold idT; rw [List.getElem?_map, hget]; rfl
  generalize hm : M[i] = mi at h2 h3 hset hset2 hget hget2 hget3 ⊢
  refine rgS fun K hK => ?_
  simp (disch := omega)
  and_intros <;> try first | apply hK | omega | rfl | simp <;> omega
  refine condT (by simp <;> omega) ?_
  refine awp_skip ?_
  show awp _ _ _ _
  refine awp_seq ?_
  refine awp_block ?_
  refine rgS fun K hK => ?_
  simp (disch := omega) [huO, nxO, hMl, hil, hget2, hset]
  and_intros <;> try first | apply hK | omega | rfl | simp <;> omega
  refine awp_seq ?_
  by_cases e : mi + 1 < R[i].length
  ·have e' : (mi : Int) + 1 < (R[i].length : Int) := by omega
   rw [if_pos e]
   refine awp_seqD (by kernel_rfl) (fun K hK => ?_)
   simp (disch := omega) [huO, nxO, hMl, hil, hget3, hset]
   and_intros <;> try first | apply hK | (show chkD _ _ = true; kernel_rfl) | omega | rfl | simp <;> omega
   refine condT (by simp [e'] <;> omega) ?_
   refine rgS fun K hK => ?_
   simp (disch := omega)
   and_intros <;> try first | apply hK | omega | rfl | simp <;> omega
   refine awp_ret ?_
   refine ⟨⟨.inr rfl, _, [(0, some 0), (1, some 1), (2, some 2)], (by first | rfl | (simp [tpO, huO, mcO, mcC_wk, nxO, pgT, hset]; rfl)), ?_, ?_, ?_, ?_⟩, ?_⟩
   all_goals try simp [tpO, huO, mcO, mcC_wk, nxO, pgT, hset]
  ·have e' : ¬ (mi : Int) + 1 < (R[i].length : Int) := by omega
   rw [if_neg e]
   refine awp_seqD (by kernel_rfl) (fun K hK => ?_)
   simp (disch := omega) [huO, nxO, hMl, hil, hget3, hset]
   and_intros <;> try first | apply hK | (show chkD _ _ = true; kernel_rfl) | omega | rfl | simp <;> omega
   refine condF (by simp [e'] <;> omega) ?_
   refine awp_skip ?_
   show awp _ _ _ _
   refine rgL fun K hK => ?_
   simp (disch := omega) [huO, nxO, hMl, hil, hset, hset2]
   and_intros <;> try first | apply hK | omega | rfl | simp <;> omega
   show awp _ _ _ _
   refine rgL fun K hK => ?_
   simp (disch := omega)
   (repeat' first | apply hK | apply And.intro) <;> try first | omega | rfl | (simp <;> omega)
   refine ⟨(i, M.set i 0), ⟨by simp only; omega, hM.set (fun hi2 => by rw [e2]; omega), rfl⟩, by simp only; omega, ?_⟩
   refine wk_list [(0, some 0), (1, some 1), (2, some 2)] rfl ?_ ?_ ?_ ?_
   all_goals try simp [huO, mcO, mcC_wk, nxO, pgT, hset, hset2]
theorem hrunK (pa pb : List (Int × Int)) (R : List (List Int)) (hRl : R.length ≤ 1000) (hRL : ∀ l ∈ R, l.length ≤ 100000) (tb : List (List Int)) (T : Nat → Nat → Nat) (n : Nat) (ht : TbL tb n T) (hA : Assoc n T) (hn : n ≤ 1000) (one : Int) (u : Nat → Bool) (v1 v2 : List Nat → Nat) (hE : HRun R T n one u pa pb v1 v2) (limit : Nat) (hlim : limit ≤ 10000000) (N : List Nat) (hN : NOk R N) :
  FnK Tryz.prog 36 [.ptr 0 0 5, .t 2 (.int .i64 (limit : Nat))] [huO pa pb R 1 2, mcO tb T n one u, nxO N]
   (.tup [.t 2 (.int .i64 ((runH v1 v2 R limit 0 N).1 : Nat)), .t 2 (.bool (runH v1 v2 R limit 0 N).2.1), .t 2 (.bool (runH v1 v2 R limit 0 N).2.2.1)])
   [huO pa pb R 1 2, mcO tb T n one u, nxO (runH v1 v2 R limit 0 N).2.2.2] [2] := by
 have hVal := hvaluesK pa pb R hRl tb T n one u N hN
 have hNl := hN.len
 refine fn_introK 2 R.length rfl rfl (by simp [idT, hN.len]) (by simp [idT, (runH_ok limit 0 hN).1.len]) Tryz.func36 rfl (by simp [Tryz.f36]) ?_
 rw [show Tryz.f36.ntmps = 68 from rfl, show Tryz.f36.results = #[.tmp 4, .tmp 5, .tmp 6] from rfl]
 refine rgS fun K hK => ?_
 simp (disch := omega)
 and_intros <;> try first | apply hK | omega | rfl | simp <;> omega
 refine rgS fun K hK => ?_
 simp (disch := omega)
 (repeat' apply And.intro)
 all_goals (try omega)
 refine call_ruleK (caps := []) (hVal) [0, 1, 2] [0, 4000003, 2, 4000005] 1 rfl rfl rfl rfl (by kernel_rfl) (by simp) ?_ ?_ (by simp) rfl (by simp) ⟨.inr (.inl ⟨rfl, 0, _, _, _, _, _, rfl, rfl, (by first | rfl | simp [huO, mcO, mcC_in, mcC_out, nxO, pgT, vaO]), rfl, (by first | rfl | simp [huO, mcO, mcC_in, mcC_out, nxO, pgT, vaO])⟩), .inl ⟨by omega, by omega⟩, .inr (.inr ⟨rfl, by simp, by simp [huO, mcO, mcC_in, mcC_out, nxO, pgT, vaO]⟩), .inl ⟨by omega, by omega⟩, trivial⟩ (by simp [huO, mcO, mcC_in, mcC_out, nxO, pgT, vaO]) ?_
 ·simp [huO, mcO, mcC_in, mcC_out, nxO, pgT, vaO]
 ·simp [huO, mcO, mcC_in, mcC_out, nxO, pgT, vaO]
 simp (disch := omega) [huO, mcO, mcC_out, nxO, vaO]
 and_intros <;> try first | apply hK | omega | rfl | simp <;> omega
 refine awp_seq ?_
 refine awp_block ?_
 refine awp_loop (fun y : Nat × List Nat × (Nat → Int) => mkS [(0, .ptr 0 0 5), (1, .t 2 (.int .i64 (limit : Nat))), (4, .t 2 (.int .i64 (y.1 : Nat))), (7, .own 3 R.length)] [(0, huO pa pb R 1 2), (1, mcO tb T n one u), (2, nxO y.2.1), (3, vaO R y.2.2)] 4 68 [.ptr 0 0 5, .any, .own 2 R.length]) (fun y => y.1 ≤ limit ∧ NOk R y.2.1 ∧ runH v1 v2 R limit 0 N = runH v1 v2 R (limit - y.1) y.1 y.2.1) (fun y => limit - y.1) ?_ ?_
 ·refine ⟨(0, N, asgF R N), ⟨by simp, hN, rfl⟩, ?_⟩
  refine wk_list [(0, some 0), (1, some 4000003), (2, some 2), (3, some 4000005)] rfl ?_ ?_ ?_ ?_
  all_goals try simp [huO, mcO, mcC_wk, nxO, vaO, pgT]
 rintro ⟨s, M, W⟩ ⟨hs, hM, hex⟩
 simp only at hs hM hex
 rw [hex]
 have hMl := hM.len
 refine awp_seq ?_
 by_cases hsl : s < limit
 case neg =>
  obtain rfl : s = limit := by omega
  rw [Nat.sub_self, runH]
  refine rgS fun K hK => ?_
  simp (disch := omega)
  and_intros <;> try first | apply hK | omega | rfl | simp <;> omega
  refine condF (by simp <;> omega) ?_
  refine awp_exit ?_
  show awp _ _ _ _
  refine rgS fun K hK => ?_
  simp (disch := omega)
  and_intros <;> try first | apply hK | omega | rfl | simp <;> omega
  refine awp_ret ?_
  refine ⟨⟨.inr rfl, _, [(0, some 0), (1, some 1), (2, some 2)], (by first | rfl | (simp [tpO, huO, mcO, mcC_wk, nxO, pgT]; rfl)), ?_, ?_, ?_, ?_⟩, ?_⟩
  all_goals try simp [tpO, huO, mcO, mcC_wk, nxO, pgT]
 have hE1 := hE.a M hM
 have hE2 := hE.b M hM
 have hAd := hadvanceK pa pb R hRl hRL tb T n one u M hM
 have hr1 := run_fn tb n T ht hA hn one u (asg R M) pa hE.la (v1 M) hE1
 have hr2 := run_fn tb n T ht hA hn one u (asg R M) pb hE.lb (v2 M) hE2
 rw [asg_ints] at hr1 hr2
 rw [show limit - s = (limit - (s + 1)) + 1 by omega, runH]
 refine rgS fun K hK => ?_
 simp (disch := omega)
 and_intros <;> try first | apply hK | omega | rfl | simp <;> omega
 refine condT (by simp [hsl] <;> omega) ?_
 refine awp_skip ?_
 show awp _ _ _ _
 refine awp_block ?_
 refine rgS fun K hK => ?_
 simp (disch := omega)
 and_intros <;> try first | apply hK | omega | rfl | simp <;> omega
 refine awp_seq ?_
 refine rgS fun K hK => ?_
 simp (disch := omega) [huO, nxO, hMl]
 and_intros <;> try first | apply hK | omega | rfl | simp <;> omega
 refine awp_block ?_
 refine awp_loop (fun k : Nat => mkS [(0, .ptr 0 0 5), (1, .t 2 (.int .i64 (limit : Nat))), (4, .t 2 (.int .i64 ((s + 1 : Nat) : Int))), (7, .own 3 R.length), (20, .own 2 R.length), (21, .t 2 (.int .i64 R.length)), (22, .t 2 (.int .i64 k))] [(0, huO pa pb R 1 2), (1, mcO tb T n one u), (2, nxO M), (3, vaO R fun i => if i < k then asgF R M i else W i)] 4 68 [.ptr 0 0 5, .any, .own 2 R.length]) (fun k => k ≤ R.length) (fun k => R.length - k) ?_ ?_
 ·refine ⟨0, by omega, ?_⟩
  refine wk_list [(0, some 0), (1, some 1), (2, some 2), (3, some 3)] rfl ?_ ?_ ?_ ?_
  all_goals try simp [huO, mcO, mcC_wk, nxO, vaO, pgT]
 intro k hk
 refine rgS fun K hK => ?_
 simp (disch := omega)
 and_intros <;> try first | apply hK | omega | rfl | simp <;> omega
 refine awp_seq ?_
 by_cases hkl : k < R.length
 ·obtain ⟨h1, h2, h3⟩ := hM.at hkl
  refine condT (by simp [hkl] <;> omega) ?_
  refine awp_skip ?_
  show awp _ _ _ _
  refine awp_seq ?_
  refine awp_block ?_
  refine rgS fun K hK => ?_
  simp (disch := omega) [nxO, idT, hMl, hkl, h1]
  and_intros <;> try first | apply hK | omega | rfl | simp <;> omega
  refine rgL fun K hK => ?_
  simp (disch := omega) [huO, vaO, hkl, h2, h3]
  and_intros <;> try first | apply hK | omega | rfl | simp <;> omega
  show awp _ _ _ _
  refine rgL fun K hK => ?_
  simp (disch := omega)
  (repeat' first | apply hK | apply And.intro) <;> try first | omega | rfl | (simp <;> omega)
  refine ⟨k + 1, by omega, by omega, ?_⟩
  refine wk_list [(0, some 0), (1, some 1), (2, some 2), (3, some 3)] rfl ?_ ?_ ?_ ?_
  all_goals try simp [huO, mcO, mcC_wk, nxO, vaO, idT, pgT]
  rw [tab_set]
  refine tab_congr (fun i hi => ?_)
  by_cases e : i = k
  ·subst e; simp
  ·rw [if_neg e]
   by_cases e2 : i < k
   ·rw [if_pos e2, if_pos (by omega)]
   ·rw [if_neg e2, if_neg (by omega)]
 obtain rfl : k = R.length := by omega
 have hva : vaO R (fun i => if i < R.length then asgF R M i else W i) = vaO R (asgF R M) := by
  unfold vaO
  congr 1
  exact tab_congr (fun i hi => by simp only [if_pos hi])
 rw [hva]
 refine condF (by simp <;> omega) ?_
 refine awp_exit ?_
 show awp _ _ _ _
 refine awp_seq ?_
 refine awp_seqD (by kernel_rfl) (fun K hK => ?_)
 simp (disch := omega) [huO]
 (repeat' apply And.intro)
 all_goals (try omega)
 refine call_ruleD (caps := []) (hr1) [1] [1] 1 rfl rfl rfl rfl (by kernel_rfl) (by simp) ?_ ?_ (by simp) rfl (by simp) ⟨.inr ⟨rfl, 0, _, _, _, _, _, rfl, rfl, (by first | rfl | simp [huO, mcO, mcC_in, mcC_out, vaO, pgT]), rfl, (by first | rfl | simp [huO, mcO, mcC_in, mcC_out, vaO, pgT])⟩, trivial⟩ (by simp [huO, mcO, mcC_in, mcC_out, vaO, pgT]) ?_
 ·simp [huO, mcO, mcC_in, mcC_out, vaO, pgT]
 ·simp [huO, mcO, mcC_in, mcC_out, vaO, pgT]
 simp (disch := omega) [huO, mcC_out]
 (repeat' apply And.intro)
 all_goals (try omega)
 refine call_ruleD (caps := []) (hr2) [1] [1] 1 rfl rfl rfl rfl (by kernel_rfl) (by simp) ?_ ?_ (by simp) rfl (by simp) ⟨.inr ⟨rfl, 0, _, _, _, _, _, rfl, rfl, (by first | rfl | simp [huO, mcO, mcC_in, mcC_out, vaO, pgT]), rfl, (by first | rfl | simp [huO, mcO, mcC_in, mcC_out, vaO, pgT])⟩, trivial⟩ (by simp [huO, mcO, mcC_in, mcC_out, vaO, pgT]) ?_
 ·simp [huO, mcO, mcC_in, mcC_out, vaO, pgT]
 ·simp [huO, mcO, mcC_in, mcC_out, vaO, pgT]
 simp (disch := omega) [huO, mcC_out]
 (repeat' first | apply hK | apply And.intro) <;> try first | (show chkD _ _ = true; kernel_rfl) | omega | rfl | (simp <;> omega)
 by_cases e : v1 M = v2 M
 case neg =>
  rw [if_pos e]
  refine condT (by simp [e] <;> omega) ?_
  refine rgS fun K hK => ?_
  simp (disch := omega)
  and_intros <;> try first | apply hK | omega | rfl | simp <;> omega
  refine awp_ret ?_
  refine ⟨⟨.inr rfl, _, [(0, some 0), (1, some 1), (2, some 2)], (by first | rfl | (simp [tpO, huO, mcO, mcC_wk, mcC_out, nxO, pgT]; rfl)), ?_, ?_, ?_, ?_⟩, ?_⟩
  all_goals try simp [tpO, huO, mcO, mcC_wk, mcC_out, nxO, pgT]
 have e' : ¬ (v1 M ≠ v2 M) := fun h => h e
 rw [if_neg e']
 refine condF (by simp [e] <;> omega) ?_
 refine awp_skip ?_
 show awp _ _ _ _
 refine awp_weak (σ' := mkS [(0, .ptr 0 0 5), (1, .t 2 (.int .i64 (limit : Nat))), (4, .t 2 (.int .i64 ((s + 1 : Nat) : Int))), (7, .own 3 R.length)] [(0, huO pa pb R 1 2), (1, mcO tb T n one u), (2, nxO M), (3, vaO R (asgF R M))] 4 68 [.ptr 0 0 5, .any, .own 2 R.length]) ?_ ?_
 ·refine wk_list [(0, some 0), (1, some 1), (2, some 2), (3, some 3)] rfl ?_ ?_ ?_ ?_
  all_goals try simp [huO, mcO, mcC_wk, mcC_out, nxO, vaO, pgT]
 refine rgS fun K hK => ?_
 simp (disch := omega)
 (repeat' apply And.intro)
 all_goals (try omega)
 refine call_ruleK (caps := []) (hAd) [0, 1, 2] [0, 1000004, 2] 1 rfl rfl rfl rfl (by kernel_rfl) (by simp) ?_ ?_ (by simp) rfl (by simp) ⟨.inr (.inl ⟨rfl, 0, _, _, _, _, _, rfl, rfl, (by first | rfl | simp [huO, mcO, mcC_in, mcC_out, nxO, pgT]), rfl, (by first | rfl | simp [huO, mcO, mcC_in, mcC_out, nxO, pgT])⟩), .inl ⟨by omega, by omega⟩, .inr (.inr ⟨rfl, by simp, by simp [huO, mcO, mcC_in, mcC_out, nxO, pgT]⟩), trivial⟩ (by simp [huO, mcO, mcC_in, mcC_out, nxO, pgT]) ?_
 ·simp [huO, mcO, mcC_in, mcC_out, nxO, pgT]
 ·simp [huO, mcO, mcC_in, mcC_out, nxO, pgT]
 simp (disch := omega) [huO, mcO, mcC_out, nxO]
 (repeat' first | apply hK | apply And.intro) <;> try first | omega | rfl | (simp <;> omega)
 cases hb : (advI R M).2 with
 | true =>
  simp only [↓reduceIte]
  refine condF (by simp [hb] <;> omega) ?_
  refine awp_skip ?_
  refine ⟨(s + 1, (advI R M).1, asgF R M), ⟨by simp only; omega, advI_ok hM, rfl⟩, by simp only; omega, ?_⟩
  refine wk_list [(0, some 0), (1, some 1000004), (2, some 2), (3, some 3)] rfl ?_ ?_ ?_ ?_
  all_goals try simp [huO, mcO, mcC_wk, mcC_out, nxO, vaO, pgT]
 | false =>
  simp only [Bool.false_eq_true, ↓reduceIte]
  refine condT (by simp [hb] <;> omega) ?_
  refine rgS fun K hK => ?_
  simp (disch := omega)
  and_intros <;> try first | apply hK | omega | rfl | simp <;> omega
  refine awp_ret ?_
  refine ⟨⟨.inr rfl, _, [(0, some 0), (1, some 1000004), (2, some 2)], (by first | rfl | (simp [tpO, huO, mcO, mcC_wk, mcC_out, nxO, pgT]; rfl)), ?_, ?_, ?_, ?_⟩, ?_⟩
  all_goals try simp [tpO, huO, mcO, mcC_wk, mcC_out, nxO, pgT]
end Go.Proofs.YtghnmmfkckneaaaGreat.M
