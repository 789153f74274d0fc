/-
  Walks in my logic: minimal, Minimal (minimize).
  Walks in my logic: ordered and useful on the known automaton.
-/
import Derived.Test.YtnffigeofdagfaaDoorZrau
import Derived.Test.YtnffigeofdagfaaDoorZrbb
namespace Go.Proofs.YtnffigeofdagfaaDoor.M
open Go.RowKit
set_option linter.unusedVariables false
set_option linter.unusedSimpArgs false

theorem rwN_map (n : Nat) (g : Nat → Nat) : rwN n g = (tab n fun x => (g x : Int)).map (.int .i64) := by
 rw [tab_map]
 rfl
set_option maxRecDepth 100000 in
set_option maxHeartbeats 16000000 in
theorem mzminimal_fn {L n s : Nat} {bs : List Bool} {nxt : List (List Int)} (h : DfL L n s bs nxt) (hL : 1 ≤ L) (hL2 : L ≤ 6) (hn : n ≤ 512) : ∃ res, (∃ m bs' nx' st, MiX L n s bs nxt m bs' nx' ∧ res = .tup [dfT 2 L 0 bs' nx', .t 2 (ints (tab n st))]) ∧ FnS Tryd.prog 69 [dfT 0 L s bs nxt] [] res [] := by
 obtain ⟨_, ⟨m, bs1, nx1, pl, hmn, hD1, hlang1, hpl, -, rfl⟩, htr1⟩ := dtrim_fn h hL hL2 hn
 obtain ⟨_, ⟨p, hC, rfl⟩, hcls⟩ := mzclasses_fn hD1 hL hL2 (by omega)
 have hbl1 := hD1.bl
 have hnl1 := hD1.nl
 have hm1 := hD1.n1
 have hrt1 := hD1.rt
 have hcvm := cv_le p m
 refine fn_introE Tryd.func69 rfl (by simp [Tryd.f69]) ?_
 rw [show Tryd.f69.ntmps = 112 from rfl, show Tryd.f69.results = #[.cell 2 32, .tmp 3] from rfl]
 refine awp_seqR fun K hK => ?_
 simp (maxSteps := 2000000) (disch := omega) [ints, rows, scal, wr64, wr8, dfT, bools]
 (repeat' first | apply hK | apply And.intro) <;> try first | (show okH _ _ _ = true; kernel_rfl) | omega | rfl | (simp <;> omega)
 refine awp_seqR fun K hK => ?_
 simp (maxSteps := 2000000) (disch := omega) [ints, rows, scal, wr64, wr8]
 (repeat' apply And.intro)
 all_goals (try omega)
 refine call_rule (caps := []) (htr1) [] [] 2 rfl rfl rfl rfl (by kernel_rfl) (by simp) ?_ trivial trivial rfl trivial trivial (by simp) ?_
 ·simp [scal, rows, ints, dfT, bools]
 simp (maxSteps := 2000000) (disch := omega) [ints, rows, scal, wr64, wr8, dfT, bools]
 (repeat' first | apply hK | apply And.intro) <;> try first | (show okH _ _ _ = true; kernel_rfl) | omega | rfl | (simp <;> omega)
 refine awp_seqR fun K hK => ?_
 simp (maxSteps := 2000000) (disch := omega) [ints, rows, scal, wr64, wr8]
 (repeat' apply And.intro)
 all_goals (try omega)
 refine call_rule (caps := []) (hcls) [] [] 2 rfl rfl rfl rfl (by kernel_rfl) (by simp) ?_ trivial trivial rfl trivial trivial (by simp) ?_
 ·simp [scal, rows, ints, dfT, bools]
 simp (maxSteps := 2000000) (disch := omega) [ints, rows, scal, wr64, wr8]
 (repeat' first | apply hK | apply And.intro) <;> try first | (show okH _ _ _ = true; kernel_rfl) | omega | rfl | (simp <;> omega)
 refine awp_seqR fun K hK => ?_
 simp (maxSteps := 2000000) (disch := omega) [ints, rows, scal, wr64, wr8]
 (repeat' first | apply hK | apply And.intro) <;> try first | (show okH _ _ _ = true; kernel_rfl) | omega | rfl | (simp <;> omega)
 refine awp_seq ?_
 refine awp_seqR fun K hK => ?_
 simp (maxSteps := 2000000) (disch := omega) [ints, rows, scal, wr64, wr8]
 (repeat' first | apply hK | apply And.intro) <;> try first | (show okH _ _ _ = true; kernel_rfl) | omega | rfl | (simp <;> omega)
 refine awp_block ?_
 refine awp_loop (fun y : Nat × List Bool × List (List Int) => mkS [(1, .ptr 0 0 4), (2, .ptr 1 0 4), (4, .ptr 2 0 4), (5, .t 2 (ints (tab n pl))), (6, .t 2 (.sl 1 (rwN m p))), (7, .ptr 3 0 4), (28, .t 2 (.sl 1 (rwN m p))), (29, .t 2 (.int .i64 m)), (30, .t 2 (.int .i64 y.1))] [(0, dfO L s bs nxt), (1, .box 32 [.any, .any, .any, .any]), (2, .box 32 [.t 2 (.int .i64 L), .t 2 (.int .i64 0), .t 2 (bools bs1), .t 2 (rows nx1)]), (3, .box 32 [.t 2 (.int .i64 L), .t 2 (.int .i64 0), .own 4 y.2.1.length, .own 5 y.2.2.length]), (4, .row 4 1 2 (y.2.1.map .bool)), (5, .row 22 1 2 (y.2.2.map ints))] 6 112 [.any]) (fun y => QuI L bs1 nx1 p y.2.1 y.2.2 y.1 ∧ y.1 ≤ m) (fun y => m - y.1) ?_ ?_
 ·refine ⟨(0, [], []), ⟨QuI.start, by simp⟩, ?_⟩
  refine wk_list [(0, some 0), (1, some 1000000), (2, some 8000000), (3, some 17000000), (4, none), (5, none)] rfl ?_ ?_ ?_ ?_
  all_goals try simp [ints, dfO, rows, bools, dfT]
 rintro ⟨q, bs2, nx2⟩ ⟨hQ, hq⟩
 simp only at hQ hq
 have hbl2 := hQ.bl
 have hnl2 := hQ.nl
 have hcvq := cv_le p q
 refine awp_seqR fun K hK => ?_
 simp (maxSteps := 2000000) (disch := omega) [ints, rows, scal, wr64, wr8]
 (repeat' first | apply hK | apply And.intro) <;> try first | (show okH _ _ _ = true; kernel_rfl) | omega | rfl | (simp <;> omega)
 refine awp_seq ?_
 by_cases hqm : q < m
 ·refine awp_cond (b := true) (p := 2) (by simp [scal, hqm] <;> omega) ?_
  have hg := rwN_at (c := p) hqm
  have hpq := hC.ok q hqm
  have hqx : q < nx1.length := by omega
  have hqb : q < bs1.length := by omega
  obtain ⟨hrl, -⟩ := hD1.row nx1[q] (by simp)
  refine awp_skip ?_
  show awp _ _ _ _
  refine awp_seq ?_
  refine awp_block ?_
  refine awp_seqR fun K hK => ?_
  simp (maxSteps := 2000000) (disch := omega) [ints, rows, scal, wr64, wr8, hg]
  (repeat' first | apply hK | apply And.intro) <;> try first | (show okH _ _ _ = true; kernel_rfl) | omega | rfl | (simp <;> omega)
  refine awp_seq ?_
  by_cases hold : p q < cv p q
  ·have hlt : p q < bs2.length := by omega
   refine awp_seqR fun K hK => ?_
   simp (maxSteps := 2000000) (disch := omega) [ints, rows, scal, wr64, wr8, hlt]
   (repeat' first | apply hK | apply And.intro) <;> try first | (show okH _ _ _ = true; kernel_rfl) | omega | rfl | (simp <;> omega)
   refine awp_cond (b := true) (p := 2) (by simp [scal, hlt] <;> omega) ?_
   refine awp_exit ?_
   show awp _ _ _ _
   refine awp_R fun K hK => ?_
   simp (maxSteps := 2000000) (disch := omega) [ints, rows, scal, wr64, wr8]
   (repeat' first | apply hK | apply And.intro) <;> try first | (show okH _ _ _ = true; kernel_rfl) | omega | rfl | (simp <;> omega)
   refine ⟨(q + 1, bs2, nx2), ⟨hQ.old (by omega), by simp only; omega⟩, by simp only; omega, ?_⟩
   refine wk_list [(0, some 0), (1, some 1), (2, some 2), (3, some 3), (4, some 4), (5, some 5)] rfl ?_ ?_ ?_ ?_
   all_goals try simp [ints, dfO, rows, bools]
  ·have hnew : p q = cv p q := by omega
   have hlt : ¬ p q < bs2.length := by omega
   have hQ2 := hQ.new hnew (b := bs1[q]) (by simp)
   refine awp_seqR fun K hK => ?_
   simp (maxSteps := 2000000) (disch := omega) [ints, rows, scal, wr64, wr8, hlt]
   (repeat' first | apply hK | apply And.intro) <;> try first | (show okH _ _ _ = true; kernel_rfl) | omega | rfl | (simp <;> omega)
   refine awp_cond (b := false) (p := 2) (by simp [scal, hlt] <;> omega) ?_
   refine awp_skip ?_
   show awp _ _ _ _
   refine awp_seqR fun K hK => ?_
   simp (maxSteps := 2000000) (disch := omega) [ints, rows, scal, wr64, wr8, dfO]
   (repeat' first | apply hK | apply And.intro) <;> try first | (show okH _ _ _ = true; kernel_rfl) | omega | rfl | (simp <;> omega)
   refine awp_seq ?_
   refine awp_seqR fun K hK => ?_
   simp (maxSteps := 2000000) (disch := omega) [ints, rows, scal, wr64, wr8, rows, hqx, hrl]
   (repeat' first | apply hK | apply And.intro) <;> try first | (show okH _ _ _ = true; kernel_rfl) | omega | rfl | (simp <;> omega)
   refine awp_block ?_
   refine awp_loop (fun x : Nat => mkS [(1, .ptr 0 0 4), (2, .ptr 1 0 4), (4, .ptr 2 0 4), (5, .t 2 (ints (tab n pl))), (6, .t 2 (.sl 1 (rwN m p))), (7, .ptr 3 0 4), (8, .t 2 (.int .i64 q)), (10, .own 6 L), (28, .t 2 (.sl 1 (rwN m p))), (29, .t 2 (.int .i64 m)), (30, .t 2 (.int .i64 q)), (47, .t 2 (ints nx1[q])), (48, .t 2 (.int .i64 L)), (49, .t 2 (.int .i64 x))] [(0, dfO L s bs nxt), (1, .box 32 [.any, .any, .any, .any]), (2, .box 32 [.t 2 (.int .i64 L), .t 2 (.int .i64 0), .t 2 (bools bs1), .t 2 (rows nx1)]), (3, .box 32 [.t 2 (.int .i64 L), .t 2 (.int .i64 0), .own 4 bs2.length, .own 5 nx2.length]), (4, .row 4 1 2 (bs2.map .bool)), (5, .row 22 1 2 (nx2.map ints)), (6, .row 3 1 2 (rwN L fun j => if j < x then p (stepR nx1 q j) else 0))] 7 112 [.any]) (fun x => x ≤ L) (fun x => L - x) ?_ ?_
   ·refine ⟨0, by omega, ?_⟩
    refine wk_list [(0, some 0), (1, some 1), (2, some 2), (3, some 3), (4, some 4), (5, some 5), (6, some 13000006)] rfl ?_ ?_ ?_ ?_
    all_goals try simp [ints, dfO, rows, bools, rwN_zero]
   intro x hx
   refine awp_seqR fun K hK => ?_
   simp (maxSteps := 2000000) (disch := omega) [ints, rows, scal, wr64, wr8]
   (repeat' first | apply hK | apply And.intro) <;> try first | (show okH _ _ _ = true; kernel_rfl) | omega | rfl | (simp <;> omega)
   refine awp_seq ?_
   by_cases hxl : x < L
   ·refine awp_cond (b := true) (p := 2) (by simp [scal, hxl] <;> omega) ?_
    obtain ⟨s1, s2, s3, s4⟩ := hrt1.step hqm hxl
    have hg2 := rwN_at (c := p) s1
    have hst := rwN_set L (fun j => if j < x then p (stepR nx1 q j) else 0) x (p (stepR nx1 q x))
    have hrw : rwN L (fun j => if j = x then p (stepR nx1 q x) else if j < x then p (stepR nx1 q j) else 0) = rwN L (fun j => if j < x + 1 then p (stepR nx1 q j) else 0) := rwN_congr fun i hi => by
     by_cases e2 : i = x
     ·subst e2
      rw [if_pos rfl, if_pos (by omega)]
     ·rw [if_neg e2]
      by_cases e3 : i < x
      ·rw [if_pos e3, if_pos (by omega)]
      ·rw [if_neg e3, if_neg (by omega)]
    refine awp_skip ?_
    show awp _ _ _ _
    refine awp_seq ?_
    refine awp_block ?_
    refine awp_seqR fun K hK => ?_
    simp (maxSteps := 2000000) (disch := omega) [ints, rows, scal, wr64, wr8, s3, s4]
    (repeat' first | apply hK | apply And.intro) <;> try first | (show okH _ _ _ = true; kernel_rfl) | omega | rfl | (simp <;> omega)
    refine awp_R fun K hK => ?_
    simp (maxSteps := 2000000) (disch := omega) [ints, rows, scal, wr64, wr8, hg2]
    (repeat' first | apply hK | apply And.intro) <;> try first | (show okH _ _ _ = true; kernel_rfl) | omega | rfl | (simp <;> omega)
    show awp _ _ _ _
    refine awp_R fun K hK => ?_
    simp (maxSteps := 2000000) (disch := omega) [ints, rows, scal, wr64, wr8]
    (repeat' first | apply hK | apply And.intro) <;> try first | (show okH _ _ _ = true; kernel_rfl) | omega | rfl | (simp <;> omega)
    refine ⟨x + 1, by omega, by omega, ?_⟩
    refine wk_list [(0, some 0), (1, some 1), (2, some 2), (3, some 3), (4, some 4), (5, some 5), (6, some 6)] rfl ?_ ?_ ?_ ?_
    all_goals try simp [ints, dfO, rows, bools, hst, hrw]
   ·obtain rfl : x = L := by omega
    have hrw : rwN x (fun j => if j < x then p (stepR nx1 q j) else 0) = rwN x (fun j => p (stepR nx1 q j)) := rwN_congr fun i hi => by rw [if_pos hi]
    have hri := rwN_map x (fun j => p (stepR nx1 q j))
    rw [hrw]
    generalize hrr : (tab x fun x => (p (stepR nx1 q x) : Int)) = rr at hri hQ2
    refine awp_cond (b := false) (p := 2) (by simp [scal] <;> omega) ?_
    refine awp_exit ?_
    show awp _ _ _ _
    refine awp_seqD (by kernel_rfl) (fun K hK => ?_)
    simp (maxSteps := 2000000) (disch := omega) [ints, rows, scal, wr64, wr8, bools, hqb]
    (repeat' first | apply hK | apply And.intro) <;> try first | (show chkD _ _ = true; kernel_rfl) | (show okH _ _ _ = true; kernel_rfl) | omega | rfl | (simp <;> omega)
    refine awp_R fun K hK => ?_
    simp (maxSteps := 2000000) (disch := omega) [ints, rows, scal, wr64, wr8]
    (repeat' first | apply hK | apply And.intro) <;> try first | (show okH _ _ _ = true; kernel_rfl) | omega | rfl | (simp <;> omega)
    show awp _ _ _ _
    refine awp_R fun K hK => ?_
    simp (maxSteps := 2000000) (disch := omega) [ints, rows, scal, wr64, wr8]
    (repeat' first | apply hK | apply And.intro) <;> try first | (show okH _ _ _ = true; kernel_rfl) | omega | rfl | (simp <;> omega)
    refine ⟨(q + 1, bs2 ++ [bs1[q]], nx2 ++ [rr]), ⟨hQ2, by simp only; omega⟩, by simp only; omega, ?_⟩
    refine wk_list [(0, some 0), (1, some 1), (2, some 2), (3, some 3), (4, some 4), (5, some 5)] rfl ?_ ?_ ?_ ?_
    all_goals try simp [ints, dfO, rows, bools, hri, ints]
 ·have hqe : m = q := by omega
  subst q
  obtain ⟨hDq, hlang2⟩ := hQ.fin hD1 hC
  have hp0 : p 0 = 0 := by
   have := hC.ok 0 (by omega)
   simp only [cv] at this
   omega
  have hD2 := hDq 0 (by omega)
  rw [hp0] at hD2
  obtain ⟨_, ⟨m2, bs3, nx3, pl2, hm2, hD3, hlang3, hpl2, ⟨ss3, hss3, hE3, hF3⟩, rfl⟩, htr2⟩ := dtrim_fn hD2 hL hL2 (by omega)
  have hX : MiX L n s bs nxt m2 bs3 nx3 := ⟨by omega, by rw [← hss3]; exact .of (by omega) hE3 hF3 (hQ.dis hD1 hC), fun w hw => by
   have h2 := hlang2 w hw 0 (by omega)
   rw [hp0] at h2
   rw [hlang3 w hw, h2, hlang1 w hw]⟩
  refine awp_cond (b := false) (p := 2) (by simp [scal] <;> omega) ?_
  refine awp_exit ?_
  show awp _ _ _ _
  refine awp_seqR fun K hK => ?_
  simp (maxSteps := 2000000) (disch := omega) [ints, rows, scal, wr64, wr8]
  (repeat' apply And.intro)
  all_goals (try omega)
  refine call_rule (caps := []) (htr2) [] [] 2 rfl rfl rfl rfl (by kernel_rfl) (by simp) ?_ trivial trivial rfl trivial trivial (by simp) ?_
  ·simp [scal, rows, ints, dfT, bools]
  simp (maxSteps := 2000000) (disch := omega) [ints, rows, scal, wr64, wr8, dfT, bools]
  (repeat' first | apply hK | apply And.intro) <;> try first | (show okH _ _ _ = true; kernel_rfl) | omega | rfl | (simp <;> omega)
  refine awp_seqR fun K hK => ?_
  simp (maxSteps := 2000000) (disch := omega) [ints, rows, scal, wr64, wr8]
  (repeat' first | apply hK | apply And.intro) <;> try first | (show okH _ _ _ = true; kernel_rfl) | omega | rfl | (simp <;> omega)
  refine awp_seq ?_
  refine awp_seqR fun K hK => ?_
  simp (maxSteps := 2000000) (disch := omega) [ints, rows, scal, wr64, wr8]
  (repeat' first | apply hK | apply And.intro) <;> try first | (show okH _ _ _ = true; kernel_rfl) | omega | rfl | (simp <;> omega)
  refine awp_block ?_
  refine awp_loop (fun y : Nat × (Nat → Int) => mkS [(2, .ptr 0 0 4), (6, .t 2 (.sl 1 (rwN m p))), (13, .ptr 1 0 4), (14, .t 2 (ints (tab (cv p m) pl2))), (15, .own 2 n), (87, .t 2 (ints (tab n pl))), (88, .t 2 (.int .i64 n)), (89, .t 2 (.int .i64 y.1))] [(0, .box 32 [.any, .any, .any, .any]), (1, .box 32 [.t 2 (.int .i64 L), .t 2 (.int .i64 0), .t 2 (bools bs3), .t 2 (rows nx3)]), (2, .row 3 1 2 (tab n fun i => .int .i64 (y.2 i)))] 3 112 [.any]) (fun y => y.1 ≤ n) (fun y => n - y.1) ?_ ?_
  ·refine ⟨(0, fun _ => 0), by simp, ?_⟩
   refine wk_list [(0, some 1), (1, some 6000006), (2, some 11000006)] rfl ?_ ?_ ?_ ?_
   all_goals try simp [ints, rows, bools, dfT, rep_tab]
  rintro ⟨i, st⟩ hi
  simp only at hi
  refine awp_seqR fun K hK => ?_
  simp (maxSteps := 2000000) (disch := omega) [ints, rows, scal, wr64, wr8]
  (repeat' first | apply hK | apply And.intro) <;> try first | (show okH _ _ _ = true; kernel_rfl) | omega | rfl | (simp <;> omega)
  refine awp_seq ?_
  by_cases hin : i < n
  ·refine awp_cond (b := true) (p := 2) (by simp [scal, hin] <;> omega) ?_
   have hpi := hpl i hin
   refine awp_skip ?_
   show awp _ _ _ _
   refine awp_seq ?_
   refine awp_block ?_
   refine awp_seqR fun K hK => ?_
   simp (maxSteps := 2000000) (disch := omega) [ints, rows, scal, wr64, wr8, tab_map, hin]
   (repeat' first | apply hK | apply And.intro) <;> try first | (show okH _ _ _ = true; kernel_rfl) | omega | rfl | (simp <;> omega)
   refine awp_seqR fun K hK => ?_
   simp (maxSteps := 2000000) (disch := omega) [ints, rows, scal, wr64, wr8, hin]
   (repeat' first | apply hK | apply And.intro) <;> try first | (show okH _ _ _ = true; kernel_rfl) | omega | rfl | (simp <;> omega)
   by_cases hneg : 0 ≤ pl i
   ·obtain ⟨j, hj⟩ : ∃ j : Nat, pl i = (j : Int) := ⟨(pl i).toNat, by omega⟩
    have hjm : j < m := by omega
    have hg := rwN_at (c := p) hjm
    have hpj := hC.ok.lt hjm hjm
    have hpj2 : p j < cv p m := hC.ok.lt hjm (by omega)
    refine awp_seqR fun K hK => ?_
    simp (maxSteps := 2000000) (disch := omega) [ints, rows, scal, wr64, wr8, hj]
    (repeat' first | apply hK | apply And.intro) <;> try first | (show okH _ _ _ = true; kernel_rfl) | omega | rfl | (simp <;> omega)
    refine awp_cond (b := true) (p := 2) (by simp [scal] <;> omega) ?_
    refine awp_R fun K hK => ?_
    simp (maxSteps := 2000000) (disch := omega) [ints, rows, scal, wr64, wr8, hj, hg, tab_map, hpj2, hin]
    (repeat' first | apply hK | apply And.intro) <;> try first | (show okH _ _ _ = true; kernel_rfl) | omega | rfl | (simp <;> omega)
    show awp _ _ _ _
    refine awp_R fun K hK => ?_
    simp (maxSteps := 2000000) (disch := omega) [ints, rows, scal, wr64, wr8]
    (repeat' first | apply hK | apply And.intro) <;> try first | (show okH _ _ _ = true; kernel_rfl) | omega | rfl | (simp <;> omega)
    refine ⟨(i + 1, fun q => if q = i then pl2 (p j) else st q), by simp only; omega, by simp only; omega, ?_⟩
    refine wk_list [(0, some 0), (1, some 1), (2, some 2)] rfl ?_ ?_ ?_ ?_
    all_goals try simp [ints, rows, bools, tab_set, tab_map]
    refine tab_congr (fun q hq => ?_)
    by_cases e : q = i <;> simp [e]
   ·refine awp_seqR fun K hK => ?_
    simp (maxSteps := 2000000) (disch := omega) [ints, rows, scal, wr64, wr8, hneg]
    (repeat' first | apply hK | apply And.intro) <;> try first | (show okH _ _ _ = true; kernel_rfl) | omega | rfl | (simp <;> omega)
    refine awp_cond (b := false) (p := 2) (by simp [scal] <;> omega) ?_
    refine awp_skip ?_
    show awp _ _ _ _
    refine awp_R fun K hK => ?_
    simp (maxSteps := 2000000) (disch := omega) [ints, rows, scal, wr64, wr8]
    (repeat' first | apply hK | apply And.intro) <;> try first | (show okH _ _ _ = true; kernel_rfl) | omega | rfl | (simp <;> omega)
    refine ⟨(i + 1, fun q => if q = i then -1 else st q), by simp only; omega, by simp only; omega, ?_⟩
    refine wk_list [(0, some 0), (1, some 1), (2, some 2)] rfl ?_ ?_ ?_ ?_
    all_goals try simp [ints, rows, bools, tab_set, tab_map]
    refine tab_congr (fun q hq => ?_)
    by_cases e : q = i <;> simp [e]
  ·refine awp_cond (b := false) (p := 2) (by simp [scal] <;> omega) ?_
   refine awp_exit ?_
   show awp _ _ _ _
   refine awp_seqR fun K hK => ?_
   simp (maxSteps := 2000000) (disch := omega) [ints, rows, scal, wr64, wr8]
   (repeat' first | apply hK | apply And.intro) <;> try first | (show okH _ _ _ = true; kernel_rfl) | omega | rfl | (simp <;> omega)
   refine awp_ret ?_
   refine ⟨_, ⟨m2, bs3, nx3, st, hX, rfl⟩, ?_⟩
   refine ⟨⟨.inr rfl, _, [], (by simp; rfl), trivial, trivial, by simp [dfT, bools, tab_map], ?_⟩, by simp [dfT, bools, tab_map]⟩
   simp [ints, rows, dfT, bools, tab_map]
set_option maxRecDepth 100000 in
set_option maxHeartbeats 4000000 in
theorem mzMinimal_fn {L n s : Nat} {bs : List Bool} {nxt : List (List Int)} (h : DfL L n s bs nxt) (hL : 1 ≤ L) (hL2 : L ≤ 6) (hn : n ≤ 512) : ∃ res, (∃ m bs' nx', MiX L n s bs nxt m bs' nx' ∧ res = dfT 2 L 0 bs' nx') ∧ FnS Tryd.prog 45 [dfT 0 L s bs nxt] [] res [] := by
 obtain ⟨_, ⟨m, bs', nx', st, hX, rfl⟩, hmin⟩ := mzminimal_fn h hL hL2 hn
 refine fn_introE Tryd.func45 rfl (by simp [Tryd.f45]) ?_
 rw [show Tryd.f45.ntmps = 15 from rfl, show Tryd.f45.results = #[.cell 2 32] from rfl]
 refine awp_seqR fun K hK => ?_
 simp (maxSteps := 2000000) (disch := omega) [ints, rows, scal, wr64, wr8, dfT, bools]
 (repeat' first | apply hK | apply And.intro) <;> try first | (show okH _ _ _ = true; kernel_rfl) | omega | rfl | (simp <;> omega)
 refine awp_seq ?_
 refine awp_seqR fun K hK => ?_
 simp (maxSteps := 2000000) (disch := omega) [ints, rows, scal, wr64, wr8]
 (repeat' apply And.intro)
 all_goals (try omega)
 refine call_rule (caps := []) (dvalidate_fn h hL hL2 hn) [] [] 2 rfl rfl rfl rfl (by kernel_rfl) (by simp) ?_ trivial trivial rfl trivial trivial (by simp) ?_
 ·simp [scal, rows, ints, dfT, bools]
 simp (maxSteps := 2000000) (disch := omega) [ints, rows, scal, wr64, wr8]
 (repeat' first | apply hK | apply And.intro) <;> try first | (show okH _ _ _ = true; kernel_rfl) | omega | rfl | (simp <;> omega)
 refine awp_cond (b := false) (p := 2) (by simp [scal] <;> omega) ?_
 refine awp_skip ?_
 show awp _ _ _ _
 refine awp_seqR fun K hK => ?_
 simp (maxSteps := 2000000) (disch := omega) [ints, rows, scal, wr64, wr8]
 (repeat' apply And.intro)
 all_goals (try omega)
 refine call_rule (caps := []) (hmin) [] [] 2 rfl rfl rfl rfl (by kernel_rfl) (by simp) ?_ trivial trivial rfl trivial trivial (by simp) ?_
 ·simp [scal, rows, ints, dfT, bools]
 simp (maxSteps := 2000000) (disch := omega) [ints, rows, scal, wr64, wr8, dfT, bools]
 (repeat' first | apply hK | apply And.intro) <;> try first | (show okH _ _ _ = true; kernel_rfl) | omega | rfl | (simp <;> omega)
 refine awp_seqR fun K hK => ?_
 simp (maxSteps := 2000000) (disch := omega) [ints, rows, scal, wr64, wr8]
 (repeat' first | apply hK | apply And.intro) <;> try first | (show okH _ _ _ = true; kernel_rfl) | omega | rfl | (simp <;> omega)
 refine awp_ret ?_
 refine ⟨_, ⟨m, bs', nx', hX, rfl⟩, ?_⟩
 refine ⟨⟨.inr rfl, _, [], (by simp; rfl), trivial, trivial, by simp [dfT, bools], ?_⟩, by simp [dfT, bools]⟩
 simp [ints, rows, dfT, bools]

set_option linter.unusedSimpArgs false

theorem known_pin {m : Nat} {bs : List Bool} {nx : List (List Int)} (h : MiX 2 2 0 [false, true] [[1, 0], [1, 1]] m bs nx) : m = 2 ∧ bs = [false, true] ∧ nx = [[1, 0], [1, 1]] := by
 obtain ⟨hm, hMn, hl⟩ := h
 have hD := hMn.df
 have w0 := hl [] (by simp)
 have w1 := hl [0] (by simp)
 have w2 := hl [1] (by simp)
 have w3 := hl [0, 0] (by simp)
 have w4 := hl [0, 1] (by simp)
 have e0 : accR [false, true] [[1, 0], [1, 1]] 0 [] = false := by decide
 have e1 : accR [false, true] [[1, 0], [1, 1]] 0 [0] = true := by decide
 have e2 : accR [false, true] [[1, 0], [1, 1]] 0 [1] = false := by decide
 have e3 : accR [false, true] [[1, 0], [1, 1]] 0 [0, 0] = true := by decide
 have e4 : accR [false, true] [[1, 0], [1, 1]] 0 [0, 1] = true := by decide
 rw [e0] at w0
 rw [e1] at w1
 rw [e2] at w2
 rw [e3] at w3
 rw [e4] at w4
 have hn1 := hD.n1
 have hbl := hD.bl
 have hnl := hD.nl
 have hrow := hD.row
 have two : ∀ v : Int, 0 ≤ v → v < 2 → v = 0 ∨ v = 1 := fun v h1 h2 => by omega
 have one : ∀ v : Int, 0 ≤ v → v < 1 → v = 0 := fun v h1 h2 => by omega
 rcases (by omega : m = 1 ∨ m = 2) with rfl | rfl
 ·exfalso
  match bs, hbl with
  | [b], _ =>
   match nx, hnl with
   | [r], _ =>
    obtain ⟨hr, hv⟩ := hrow r (by simp)
    match r, hr with
    | [x, y], _ =>
     obtain rfl := one x (hv x (by simp)).1 (hv x (by simp)).2
     obtain rfl := one y (hv y (by simp)).1 (hv y (by simp)).2
     cases b <;> simp [accR, walkR, stepR] at w0 w1
 ·refine ⟨rfl, ?_⟩
  match bs, hbl with
  | [b, c], _ =>
   match nx, hnl with
   | [r, t], _ =>
    obtain ⟨hr, hv⟩ := hrow r (by simp)
    obtain ⟨ht, hu⟩ := hrow t (by simp)
    match r, hr with
    | [x, y], _ =>
     match t, ht with
     | [z, u], _ =>
      have hx := two x (hv x (by simp)).1 (hv x (by simp)).2
      have hy := two y (hv y (by simp)).1 (hv y (by simp)).2
      have hz := two z (hu z (by simp)).1 (hu z (by simp)).2
      have hu' := two u (hu u (by simp)).1 (hu u (by simp)).2
      clear hrow hv hu hl hD
      rcases hx with rfl | rfl <;> rcases hy with rfl | rfl <;> rcases hz with rfl | rfl <;> rcases hu' with rfl | rfl <;> cases b <;> cases c <;> simp [accR, walkR, stepR] at w0 w1 w2 w3 w4 ⊢
end Go.Proofs.YtnffigeofdagfaaDoor.M
