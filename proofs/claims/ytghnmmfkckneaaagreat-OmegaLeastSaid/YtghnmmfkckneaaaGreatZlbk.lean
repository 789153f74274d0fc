/-
  Walk in my logic: the law OmegaLeast.
-/
import Derived.Test.YtghnmmfkckneaaaGreatZlaq
import Derived.Test.YtghnmmfkckneaaaGreatZlbi
import Derived.Test.YtghnmmfkckneaaaGreatZlbj
namespace Go.Proofs.YtghnmmfkckneaaaGreat.M
open Go.RowKit
set_option linter.unusedVariables false
set_option linter.unusedSimpArgs false

def selX (R : List (List Int)) (X : Nat → Nat) (i : Nat) : Int := (R.getD i []).getD (X i) 0
theorem asg_sel (R : List (List Int)) (X : Nat → Nat) : ints (asg R (tab R.length X)) = .sl 1 (tab R.length fun i => .int .i64 (selX R X i)) := by
 rw [asg_tab]
 unfold ints
 rw [tab_map]
 rfl
theorem asg_inB {n : Nat} {R : List (List Int)} (hR : RIn n R) {N : List Nat} (h : NOk R N) : inB n (asg R N) = true := inB_t fun i hi => by
 obtain ⟨e, hlt⟩ := (asg_in hR h).get i hi
 rw [List.getElem?_eq_getElem hi] at e
 injection e with e
 rw [e]
 omega
set_option maxRecDepth 100000 in
set_option maxHeartbeats 16000000 in
theorem omegaLeast_fn (l1 l2 : List Int) : FnA Tryz.prog 3 [.t 1 (ints l1), .t 1 (ints l2)] (.t 2 (.bool true)) := by
 have hnew := new_fn l1
 obtain ⟨xs, hxs⟩ : ∃ xs, xs = l1.take 80 := ⟨_, rfl⟩
 have hl : xs.length ≤ 80 := by rw [hxs]; simp; omega
 rw [← hxs] at hnew
 have hnew2 := new_fn l2
 obtain ⟨ys, hys⟩ : ∃ ys, ys = l2.take 80 := ⟨_, rfl⟩
 have hly : ys.length ≤ 80 := by rw [hys]; simp; omega
 rw [← hys] at hnew2
 obtain ⟨res, H', ⟨tb, b, hTb, hb, rfl, rfl⟩, hT⟩ := table28_fn xs 0 9 (by omega) hl (by omega)
 obtain ⟨v1, hi0, htb0, htb⟩ := hTb.ok (by omega) (by omega)
 obtain ⟨res, H', ⟨u, v, b1, hu, hv, hb1, rfl, rfl⟩, hI⟩ := identity28_fn xs b hb hl
 have ht := TbL.of v1
 have hA := vErr_asc v1
 have hAll := all28_fn tb (by omega)
 have hVio := violated_fn tb (allL tb.length) u v (by simp; omega) 2000
 have hRg := rRanges_fn tb tb.length ht v1 (by omega) u v ⟨hu, hv⟩ hi0
 have hId := rIdentity_fn tb tb.length (tabOf tb) ht (by omega)
 rw [hi0] at hId
 obtain ⟨R, hR⟩ : ∃ R, R = rngL (tabOf tb) (allL tb.length) u v := ⟨_, rfl⟩
 have hcs := vio_cases v1 hi0 ⟨hu, hv⟩ hR
 have hRin : RIn tb.length R := by
  rw [hR]
  exact rngL_in (fun i h => by rw [allL_at]; rw [allL_size] at h; omega) u v
 have hRle : ∀ q ∈ R, q.length ≤ tb.length := fun q hq => by
  rw [hR] at hq
  have := rngL_le u v q hq
  rwa [allL_size] at this
 have hRas : ∀ q ∈ R, q.Pairwise (· < ·) := fun q hq => by rw [hR] at hq; exact rngL_asc q hq
 have hRl : R.length = max u.gr v.gr := by rw [hR, rngL_len]
 have hgu := gr_6 u (val_ok hu).1
 have hgv := gr_6 v (val_ok hv).1
 have hsu := (val_ok hu).2
 have hsv := (val_ok hv).2
 have hOf : ∀ N, NOk R N → ∀ t : Tm, t.val = true → t.gr ≤ R.length → FnA Tryz.prog 15 [.t 0 (rows tb), .t 2 (.int .i64 0), .t 0 (ints (asg R N)), tmV 0 t] (.t 2 (.int .i64 (asV (tabOf tb) tb.length R t N : Nat))) := fun N hN t htv hg => by
  have := rOf_fn (one := 0) (o1 := 0) tb ht hA (by omega) (asg_in hRin hN) t (val_ok htv).1 (by have := (val_ok htv).2; omega) (by rw [asg_len]; exact hg) (fun _ => ⟨rfl, htb0⟩)
  unfold asV
  rw [hi0]
  exact this
 rw [← hR] at hRg
 generalize vioP tb (allL tb.length) u v 2000 = vio at hVio hcs
 obtain ⟨w, s, e⟩ := vio
 refine fn_intro Tryz.func3 rfl (by simp [Tryz.f3]) ?_
 rw [show Tryz.f3.ntmps = 136 from rfl, show Tryz.f3.results = #[.tmp 4] from rfl]
 refine awp_seqR fun K hK => ?_
 simp (disch := omega) [ints, rows, scal, wr64, wr8]
 and_intros <;> try first | apply hK | omega | rfl | simp <;> omega
 refine awp_seqR fun K hK => ?_
 simp (disch := omega) [ints, rows, scal, wr64, wr8]
 (repeat' apply And.intro)
 all_goals (try omega)
 refine call_rule (caps := []) (hnew) [] [2000000] 1 rfl rfl rfl rfl (by kernel_rfl) (by simp) ?_ ?_ (by simp) rfl (by simp) ⟨.inl ⟨by omega, by omega⟩, trivial⟩ (by simp [tpO]) ?_
 ·simp [scal, rows, ints, tpO]
 ·trivial
 simp (disch := omega) [ints, rows, scal, wr64, wr8, tpO]
 and_intros <;> try first | apply hK | omega | rfl | simp <;> omega
 refine awp_weak (σ' := mkS [(1, .t 1 (ints l2)), (5, .ptr 0 0 2)] [(0, tpO 1 xs 0)] 1 136 [.any, .any]) ?_ ?_
 ·refine wk_list [(0, some 2000000)] rfl ?_ ?_ ?_ ?_
  all_goals try simp [ints, tpO, scal, ints]
 refine awp_seqR fun K hK => ?_
 simp (disch := omega) [ints, rows, scal, wr64, wr8]
 (repeat' apply And.intro)
 all_goals (try omega)
 refine call_rule (caps := []) (hT) [0] [0] 1 rfl rfl rfl rfl (by kernel_rfl) (by simp) ?_ ?_ (by simp) rfl (by simp) ⟨.inr ⟨rfl, 0, _, _, _, _, _, rfl, rfl, rfl, rfl, rfl⟩, trivial⟩ (by simp [tpO]) ?_
 ·simp [scal, rows, ints, tpO]
 ·simp [scal, rows, ints, tpO]
 simp (disch := omega) [ints, rows, scal, wr64, wr8, tpO]
 (repeat' apply And.intro)
 all_goals (try omega)
 refine call_rule (caps := []) (hI) [0] [0] 1 rfl rfl rfl rfl (by kernel_rfl) (by simp) ?_ ?_ (by simp) rfl (by simp) ⟨.inr ⟨rfl, 0, _, _, _, _, _, rfl, rfl, rfl, rfl, rfl⟩, trivial⟩ (by simp [tpO]) ?_
 ·simp [scal, rows, ints, tpO, idV]
 ·simp [scal, rows, ints, tpO, idV]
 simp (disch := omega) [ints, rows, scal, wr64, wr8, tpO, idV, tsIdent]
 and_intros <;> try first | apply hK | omega | rfl | simp <;> omega
 refine awp_weak (σ' := mkS [(1, .t 1 (ints l2)), (6, .t 2 (rows tb)), (7, .ptr 0 0 6)] [(0, ibO u v)] 1 136 [.any, .any]) ?_ ?_
 ·refine wk_list [(0, some 4000001)] rfl ?_ ?_ ?_ ?_
  all_goals try simp [ints, tpO, ibO, rows, ints, idV]
 refine awp_seqD (by kernel_rfl) (fun K hK => ?_)
 simp (disch := omega) [ints, rows, scal, wr64, wr8, rows]
 (repeat' apply And.intro)
 all_goals (try omega)
 refine call_ruleD (caps := []) (hAll) [] [] 2 rfl rfl rfl rfl (by kernel_rfl) (by simp) ?_ trivial trivial rfl trivial trivial (by simp) ?_
 ·simp [scal, rows, ints, rows]
 simp (disch := omega) [ints, rows, scal, wr64, wr8, ibO, tsIdent]
 (repeat' apply And.intro)
 all_goals (try omega)
 refine call_ruleD (caps := []) (hVio) [] [] 2 rfl rfl rfl rfl (by kernel_rfl) (by simp) ?_ trivial trivial rfl trivial trivial (by simp) ?_
 ·simp [scal, rows, ints, rows, ints, idV]
 simp (disch := omega) [ints, rows, scal, wr64, wr8, vioV]
 and_intros <;> try first | apply hK | (show chkD _ _ = true; kernel_rfl) | omega | rfl | simp <;> omega
 refine awp_seqD (by kernel_rfl) (fun K hK => ?_)
 simp (disch := omega) [ints, rows, scal, wr64, wr8, rows]
 (repeat' apply And.intro)
 all_goals (try omega)
 refine call_ruleD (caps := []) (hAll) [] [] 2 rfl rfl rfl rfl (by kernel_rfl) (by simp) ?_ trivial trivial rfl trivial trivial (by simp) ?_
 ·simp [scal, rows, ints, rows]
 simp (disch := omega) [ints, rows, scal, wr64, wr8, ibO, tsIdent]
 (repeat' apply And.intro)
 all_goals (try omega)
 refine call_ruleD (caps := []) (hRg) [] [] 2 rfl rfl rfl rfl (by kernel_rfl) (by simp) ?_ trivial trivial rfl trivial trivial (by simp) ?_
 ·simp [scal, rows, ints, rows, ints, idV]
 simp (disch := omega) [ints, rows, scal, wr64, wr8]
 and_intros <;> try first | apply hK | (show chkD _ _ = true; kernel_rfl) | omega | rfl | simp <;> omega
 refine awp_weak (σ' := mkS [(1, .t 1 (ints l2)), (6, .t 0 (rows tb)), (7, .ptr 0 0 6), (8, .t 0 (ints w)), (10, .t 2 (.int .i64 e)), (11, .t 0 (rows R)), (12, .t 2 (.int .i64 0))] [(0, ibO u v)] 1 136 [.any, .any]) ?_ ?_
 ·refine wk_list [(0, some 0)] rfl ?_ ?_ ?_ ?_
  all_goals try simp [ints, ibO, rows, ints]
 refine awp_seq ?_
 refine awp_seqR fun K hK => ?_
 simp (disch := omega) [ints, rows, scal, wr64, wr8]
 and_intros <;> try first | apply hK | omega | rfl | simp <;> omega
 refine awp_cond (b := false) (p := 2) (by simp [scal] <;> omega) ?_
 refine awp_skip ?_
 show awp _ _ _ _
 refine awp_seqR fun K hK => ?_
 simp (disch := omega) [ints, rows, scal, wr64, wr8]
 (repeat' apply And.intro)
 all_goals (try omega)
 refine call_rule (caps := []) (hnew2) [] [3000001] 1 rfl rfl rfl rfl (by kernel_rfl) (by simp) ?_ ?_ (by simp) rfl (by simp) ⟨.inl ⟨by omega, by omega⟩, trivial⟩ (by simp [tpO]) ?_
 ·simp [scal, rows, ints, tpO]
 ·trivial
 simp (disch := omega) [ints, rows, scal, wr64, wr8, tpO]
 and_intros <;> try first | apply hK | omega | rfl | simp <;> omega
 refine awp_seqR fun K hK => ?_
 simp (disch := omega) [ints, rows, scal, wr64, wr8]
 and_intros <;> try first | apply hK | omega | rfl | simp <;> omega
 refine awp_seq ?_
 refine awp_seqR fun K hK => ?_
 simp (disch := omega) [ints, rows, scal, wr64, wr8]
 and_intros <;> try first | apply hK | omega | rfl | simp <;> omega
 refine awp_block ?_
 refine awp_loop (fun y : Nat × (Nat → Nat) × Nat => mkS [(6, .t 0 (rows tb)), (7, .ptr 0 0 6), (8, .t 0 (ints w)), (10, .t 2 (.int .i64 e)), (13, .ptr 1 0 2), (14, .own 2 y.1), (47, .t 0 (rows R)), (48, .t 2 (.int .i64 R.length)), (49, .t 2 (.int .i64 y.1))] [(0, ibO u v), (1, tpO 1 ys y.2.2), (2, .row 3 1 2 (tab y.1 fun i => .int .i64 (selX R y.2.1 i)))] 3 136 [.any, .any]) (fun y => y.1 ≤ R.length ∧ y.2.2 ≤ ys.length ∧ ∀ j, j < y.1 → y.2.1 j < (R.getD j []).length) (fun y => R.length - y.1) ?_ ?_
 ·refine ⟨(0, fun _ => 0, 0), ⟨Nat.zero_le _, Nat.zero_le _, fun j h => absurd h (Nat.not_lt_zero _)⟩, ?_⟩
  refine wk_list [(0, some 0), (1, some 3000001), (2, some 5000001)] rfl ?_ ?_ ?_ ?_
  all_goals try simp [ints, ibO, rows, ints, tpO]
 rintro ⟨k, X, c⟩ ⟨hk, hc, hX⟩
 simp only at hk hc hX
 refine awp_seqR fun K hK => ?_
 simp (disch := omega) [ints, rows, scal, wr64, wr8]
 and_intros <;> try first | apply hK | omega | rfl | simp <;> omega
 refine awp_seq ?_
 by_cases hkl : k < R.length
 ·obtain ⟨q, hq⟩ : ∃ q, q = R[k] := ⟨_, rfl⟩
  have hqm : q ∈ R := by rw [hq]; exact List.getElem_mem hkl
  have hqd : R.getD k [] = q := by rw [hq]; simp [hkl]
  have hql := hRle q hqm
  refine awp_cond (b := true) (p := 2) (by simp [scal, hkl] <;> omega) ?_
  refine awp_skip ?_
  show awp _ _ _ _
  refine awp_seq ?_
  refine awp_block ?_
  refine awp_seqR fun K hK => ?_
  simp (disch := omega) [ints, rows, scal, wr64, wr8, hkl, rows]
  and_intros <;> try first | apply hK | omega | rfl | simp <;> omega
  refine awp_weak (σ' := mkS [(6, .t 0 (rows tb)), (7, .ptr 0 0 6), (8, .t 0 (ints w)), (10, .t 2 (.int .i64 e)), (13, .ptr 1 0 2), (14, .own 2 k), (16, .t 0 (ints q)), (47, .t 0 (rows R)), (48, .t 2 (.int .i64 R.length)), (49, .t 2 (.int .i64 k))] [(0, ibO u v), (1, tpO 1 ys c), (2, .row 3 1 2 (tab k fun i => .int .i64 (selX R X i)))] 3 136 [.any, .any]) ?_ ?_
  ·refine wk_list [(0, some 0), (1, some 1), (2, some 2)] rfl ?_ ?_ ?_ ?_
   all_goals try simp [ints, ibO, rows, ints, tpO, hq]
  refine awp_seq ?_
  by_cases hq0 : q.length = 0
  ·have he9 : e = 9 := by
    rcases hcs with ⟨-, h⟩ | ⟨h, -⟩
    ·injection h with h1 h2; injection h2
    ·have := empB_no h hkl
     rw [← hq] at this
     omega
   subst he9
   refine awp_seqR fun K hK => ?_
   simp (disch := omega) [ints, rows, scal, wr64, wr8, hq0]
   and_intros <;> try first | apply hK | omega | rfl | simp <;> omega
   refine awp_cond (b := true) (p := 2) (by simp [scal, hq0] <;> omega) ?_
   refine awp_seqR fun K hK => ?_
   simp (disch := omega) [ints, rows, scal, wr64, wr8]
   (repeat' apply And.intro)
   all_goals (try omega)
   refine call_rule (caps := []) (known28_fn) [] [] 2 (by simp [scal, rows, ints]) rfl rfl rfl (by kernel_rfl) (by simp) ?_ trivial trivial rfl trivial trivial (by simp) ?_
   ·simp [scal, rows, ints]
   simp (disch := omega) [ints, rows, scal, wr64, wr8]
   and_intros <;> try first | apply hK | omega | rfl | simp <;> omega
   refine awp_ret ?_
   refine ⟨⟨.inr rfl, _, [], rfl, trivial, trivial, by simp, ?_⟩, by simp⟩
   simp
  ·have hq1 : ¬ (q.length : Int) = 0 := by omega
   obtain ⟨x, c2, hx, hc2, hN⟩ := next_fn ys c q.length hc hly (by omega)
   have hx := hx (by omega)
   have hxq : x < q.length := by omega
   refine awp_seqR fun K hK => ?_
   simp (disch := omega) [ints, rows, scal, wr64, wr8, hq0]
   and_intros <;> try first | apply hK | omega | rfl | simp <;> omega
   refine awp_cond (b := false) (p := 2) (by simp [scal, hq0] <;> omega) ?_
   refine awp_skip ?_
   show awp _ _ _ _
   refine awp_R fun K hK => ?_
   simp (disch := omega) [ints, rows, scal, wr64, wr8, tpO]
   (repeat' apply And.intro)
   all_goals (try omega)
   refine call_rule (caps := []) (hN) [1] [1] 1 rfl rfl rfl rfl (by kernel_rfl) (by simp) ?_ ?_ (by simp) rfl (by simp) ⟨.inr ⟨rfl, 0, _, _, _, _, _, rfl, rfl, rfl, rfl, rfl⟩, trivial⟩ (by simp [tpO]) ?_
   ·simp [scal, rows, ints, tpO]
   ·simp [scal, rows, ints, tpO]
   simp (disch := omega) [ints, rows, scal, wr64, wr8, tpO, hxq]
   and_intros <;> try first | apply hK | omega | rfl | simp <;> omega
   show awp _ _ _ _
   refine awp_R fun K hK => ?_
   simp (disch := omega) [ints, rows, scal, wr64, wr8]
   (repeat' first | apply hK | apply And.intro) <;> try first | omega | rfl | (simp <;> omega)
   refine ⟨(k + 1, fun j => if j = k then x else X j, c2), ⟨by simp only; omega, hc2, fun j hj => ?_⟩, by simp only; omega, ?_⟩
   ·simp only at hj ⊢
    by_cases hjk : j = k
    ·rw [if_pos hjk, hjk, hqd]; exact hxq
    ·rw [if_neg hjk]; exact hX j (by omega)
   have hstep : (tab k fun i => T.int .i64 (selX R X i)) ++ [T.int .i64 (q[x]'hxq)] = tab (k + 1) fun i => T.int .i64 (selX R (fun j => if j = k then x else X j) i) := by
    rw [tab_succ]
    show _ = (tab k fun i => T.int .i64 ((R.getD i []).getD (if i = k then x else X i) 0)) ++ [T.int .i64 ((R.getD k []).getD (if k = k then x else X k) 0)]
    rw [if_pos rfl, hqd]
    congr 1
    ·refine tab_congr fun i hi => ?_
     rw [if_neg (by omega)]
     rfl
    ·simp [hxq]
   refine wk_list [(0, some 0), (1, some 1), (2, some 2)] rfl ?_ ?_ ?_ ?_
   all_goals try simp [ints, ibO, rows, ints, tpO]
   exact hstep
 obtain rfl : k = R.length := by omega
 have hN := nok_tab hX
 obtain ⟨N, hNe⟩ : ∃ N, N = tab R.length X := ⟨_, rfl⟩
 have has := asg_sel R X
 rw [← hNe] at hN has
 have hfl : empB R = false := by
  cases h : empB R with
  | false => rfl
  | true =>
   obtain ⟨k, hk2, h0⟩ := empB_inv h
   have := hX k hk2
   rw [List.getD_eq_getElem?_getD, List.getElem?_eq_getElem hk2] at this
   simp only [Option.getD_some] at this
   omega
 rcases hcs with ⟨h, -⟩ | ⟨-, hcs⟩
 ·rw [hfl] at h; cases h
 have hOu := hOf N hN u hu (by omega)
 have hOv := hOf N hN v hv (by omega)
 obtain ⟨x1, hx1⟩ : ∃ x, x = asV (tabOf tb) tb.length R u N := ⟨_, rfl⟩
 obtain ⟨x2, hx2⟩ : ∃ x, x = asV (tabOf tb) tb.length R v N := ⟨_, rfl⟩
 rw [← hx1] at hOu
 rw [← hx2] at hOv
 refine awp_cond (b := false) (p := 2) (by simp [scal] <;> omega) ?_
 refine awp_exit ?_
 show awp _ _ _ _
 refine awp_weak (σ' := mkS [(6, .t 0 (rows tb)), (7, .ptr 0 0 6), (8, .t 0 (ints w)), (10, .t 2 (.int .i64 e)), (14, .t 0 (ints (asg R N)))] [(0, ibO u v)] 1 136 [.any, .any]) ?_ ?_
 ·rw [has]
  refine wk_list [(0, some 0)] rfl ?_ ?_ ?_ ?_
  all_goals try simp [ints, ibO, rows, ints]
 refine awp_seqR fun K hK => ?_
 simp (disch := omega) [ints, rows, scal, wr64, wr8]
 (repeat' apply And.intro)
 all_goals (try omega)
 refine call_rule (caps := []) (hId) [] [] 2 rfl rfl rfl rfl (by kernel_rfl) (by simp) ?_ trivial trivial rfl trivial trivial (by simp) ?_
 ·simp [scal, rows, ints, rows]
 simp (disch := omega) [ints, rows, scal, wr64, wr8]
 and_intros <;> try first | apply hK | omega | rfl | simp <;> omega
 refine awp_seqD (by kernel_rfl) (fun K hK => ?_)
 simp (disch := omega) [ints, rows, scal, wr64, wr8, ibO, tsTerm]
 (repeat' apply And.intro)
 all_goals (try omega)
 refine call_ruleD (caps := []) (hOu) [] [] 2 rfl rfl rfl rfl (by kernel_rfl) (by simp) ?_ trivial trivial rfl trivial trivial (by simp) ?_
 ·simp [scal, rows, ints, rows, ints, tmV]
 simp (disch := omega) [ints, rows, scal, wr64, wr8, ibO, tsTerm]
 (repeat' apply And.intro)
 all_goals (try omega)
 refine call_ruleD (caps := []) (hOv) [] [] 2 rfl rfl rfl rfl (by kernel_rfl) (by simp) ?_ trivial trivial rfl trivial trivial (by simp) ?_
 ·simp [scal, rows, ints, rows, ints, tmV]
 simp (disch := omega) [ints, rows, scal, wr64, wr8]
 and_intros <;> try first | apply hK | (show chkD _ _ = true; kernel_rfl) | omega | rfl | simp <;> omega
 refine awp_weak (σ' := mkS [(6, .t 0 (rows tb)), (7, .ptr 0 0 6), (8, .t 0 (ints w)), (10, .t 2 (.int .i64 e)), (14, .t 0 (ints (asg R N))), (17, .t 2 (.int .i64 0)), (18, .t 2 (.bool ((x1 : Int) != (x2 : Int))))] [(0, ibO u v)] 1 136 [.any, .any]) ?_ ?_
 ·refine wk_list [(0, some 0)] rfl ?_ ?_ ?_ ?_
  all_goals try simp [ints, ibO, rows, ints]
 refine awp_seq ?_
 rcases hcs with ⟨M, s', hM, hve, hMne, hMlt⟩ | ⟨s', hve, heq⟩ | hve
 ·injection hve with e1 e2
  injection e2 with e2 e3
  subst e1 e3
  have hIn := rIn_fn tb (asg R M) (by rw [asg_len]; omega) (by omega)
  rw [asg_inB hRin hM] at hIn
  have hLs := less_fn (asg R N) (asg R M) (by rw [asg_len]; omega) (by rw [asg_len]; omega)
  have hMu := hOf M hM u hu (by omega)
  have hMv := hOf M hM v hv (by omega)
  generalize asV (tabOf tb) tb.length R u M = m1 at hMne hMu
  generalize asV (tabOf tb) tb.length R v M = m2 at hMne hMv
  have hne2 : ((m1 : Int) != (m2 : Int)) = true := by
   rw [bne_iff_ne]; omega
  refine awp_seqR fun K hK => ?_
  simp (disch := omega) [ints, rows, scal, wr64, wr8]
  and_intros <;> try first | apply hK | omega | rfl | simp <;> omega
  refine awp_cond (b := false) (p := 2) (by simp [scal] <;> omega) ?_
  refine awp_skip ?_
  show awp _ _ _ _
  refine awp_seq ?_
  refine awp_seqR fun K hK => ?_
  simp (disch := omega) [ints, rows, scal, wr64, wr8]
  and_intros <;> try first | apply hK | omega | rfl | simp <;> omega
  refine awp_cond (b := false) (p := 2) (by simp [scal] <;> omega) ?_
  refine awp_skip ?_
  show awp _ _ _ _
  refine awp_seq ?_
  refine awp_seq (awp_mono (Q := fun e σ => e = Exit.normal ∧ Wk σ (mkS [(6, .t 0 (rows tb)), (7, .ptr 0 0 6), (8, .t 0 (ints (asg R M))), (17, .t 2 (.int .i64 0)), (119, .t 2 (.bool false))] [(0, ibO u v)] 1 136 [.any, .any])) ?_ ?_)
  ·by_cases hx : x1 = x2
   ·have hb : ((x1 : Int) != (x2 : Int)) = false := by rw [hx]; simp
    rw [hb]
    refine awp_R fun K hK => ?_
    simp (disch := omega) [ints, rows, scal, wr64, wr8, ints, asg_len]
    (repeat' apply And.intro)
    all_goals (try omega)
    refine call_rule (caps := []) (hIn) [] [] 2 (by simp [scal, rows, ints, rows, ints]) rfl rfl rfl (by kernel_rfl) (by simp) ?_ trivial trivial rfl trivial trivial (by simp) ?_
    ·simp [scal, rows, ints, rows, ints]
    simp (disch := omega) [ints, rows, scal, wr64, wr8]
    (repeat' first | apply hK | apply And.intro) <;> try first | omega | rfl | (simp <;> omega)
    refine wk_list [(0, some 0)] rfl ?_ ?_ ?_ ?_
    all_goals try simp [ints, ibO, rows, ints]
   ·have hb : ((x1 : Int) != (x2 : Int)) = true := by rw [bne_iff_ne]; omega
    have hlf : lessB (asg R N) (asg R M) = false := by
     cases h : lessB (asg R N) (asg R M) with
     | false => rfl
     | true =>
      have := hMlt N hN (less_lt hRas hN hM h)
      rw [← hx1, ← hx2] at this
      exact absurd this hx
    rw [hlf] at hLs
    rw [hb]
    refine awp_R fun K hK => ?_
    simp (disch := omega) [ints, rows, scal, wr64, wr8, ints, asg_len]
    (repeat' apply And.intro)
    all_goals (try omega)
    refine call_rule (caps := []) (hIn) [] [] 2 (by simp [scal, rows, ints, rows, ints]) rfl rfl rfl (by kernel_rfl) (by simp) ?_ trivial trivial rfl trivial trivial (by simp) ?_
    ·simp [scal, rows, ints, rows, ints]
    simp (disch := omega) [ints, rows, scal, wr64, wr8]
    (repeat' apply And.intro)
    all_goals (try omega)
    refine call_rule (caps := []) (hLs) [] [] 2 (by simp [scal, rows, ints, rows, ints]) rfl rfl rfl (by kernel_rfl) (by simp) ?_ trivial trivial rfl trivial trivial (by simp) ?_
    ·simp [scal, rows, ints, rows, ints]
    simp (disch := omega) [ints, rows, scal, wr64, wr8]
    (repeat' first | apply hK | apply And.intro) <;> try first | omega | rfl | (simp <;> omega)
    refine wk_list [(0, some 0)] rfl ?_ ?_ ?_ ?_
    all_goals try simp [ints, ibO, rows, ints]
  rintro e σ ⟨rfl, hw⟩
  refine awp_weak hw ?_
  clear hw
  show awp _ _ _ _
  refine awp_cond (b := false) (p := 2) (by simp [scal] <;> omega) ?_
  refine awp_skip ?_
  show awp _ _ _ _
  refine awp_seqD (by kernel_rfl) (fun K hK => ?_)
  simp (disch := omega) [ints, rows, scal, wr64, wr8, ibO, tsTerm]
  (repeat' apply And.intro)
  all_goals (try omega)
  refine call_ruleD (caps := []) (hMu) [] [] 2 rfl rfl rfl rfl (by kernel_rfl) (by simp) ?_ trivial trivial rfl trivial trivial (by simp) ?_
  ·simp [scal, rows, ints, rows, ints, tmV]
  simp (disch := omega) [ints, rows, scal, wr64, wr8, ibO, tsTerm]
  (repeat' apply And.intro)
  all_goals (try omega)
  refine call_ruleD (caps := []) (hMv) [] [] 2 rfl rfl rfl rfl (by kernel_rfl) (by simp) ?_ trivial trivial rfl trivial trivial (by simp) ?_
  ·simp [scal, rows, ints, rows, ints, tmV]
  simp (disch := omega) [ints, rows, scal, wr64, wr8, hne2]
  (repeat' apply And.intro)
  all_goals (try omega)
  refine call_ruleD (caps := []) (known28_fn) [] [] 2 (by simp [scal, rows, ints]) rfl rfl rfl (by kernel_rfl) (by simp) ?_ trivial trivial rfl trivial trivial (by simp) ?_
  ·simp [scal, rows, ints]
  simp (disch := omega) [ints, rows, scal, wr64, wr8]
  and_intros <;> try first | apply hK | (show chkD _ _ = true; kernel_rfl) | omega | rfl | simp <;> omega
  refine awp_ret ?_
  refine ⟨⟨.inr rfl, _, [], rfl, trivial, trivial, by simp, ?_⟩, by simp⟩
  simp
 ·injection hve with e1 e2
  injection e2 with e2 e3
  subst e1 e3
  have hb : ((x1 : Int) != (x2 : Int)) = false := by rw [hx1, hx2, heq N hN]; simp
  rw [hb]
  refine awp_seqR fun K hK => ?_
  simp (disch := omega) [ints, rows, scal, wr64, wr8]
  and_intros <;> try first | apply hK | omega | rfl | simp <;> omega
  refine awp_cond (b := true) (p := 2) (by simp [scal] <;> omega) ?_
  refine awp_seqR fun K hK => ?_
  simp (disch := omega) [ints, rows, scal, wr64, wr8]
  (repeat' apply And.intro)
  all_goals (try omega)
  refine call_rule (caps := []) (known28_fn) [] [] 2 (by simp [scal, rows, ints]) rfl rfl rfl (by kernel_rfl) (by simp) ?_ trivial trivial rfl trivial trivial (by simp) ?_
  ·simp [scal, rows, ints]
  simp (disch := omega) [ints, rows, scal, wr64, wr8]
  and_intros <;> try first | apply hK | omega | rfl | simp <;> omega
  refine awp_ret ?_
  refine ⟨⟨.inr rfl, _, [], rfl, trivial, trivial, by simp, ?_⟩, by simp⟩
  simp
 ·injection hve with e1 e2
  injection e2 with e2 e3
  subst e1 e3
  refine awp_seqR fun K hK => ?_
  simp (disch := omega) [ints, rows, scal, wr64, wr8]
  and_intros <;> try first | apply hK | omega | rfl | simp <;> omega
  refine awp_cond (b := false) (p := 2) (by simp [scal] <;> omega) ?_
  refine awp_skip ?_
  show awp _ _ _ _
  refine awp_seq ?_
  refine awp_seqR fun K hK => ?_
  simp (disch := omega) [ints, rows, scal, wr64, wr8]
  and_intros <;> try first | apply hK | omega | rfl | simp <;> omega
  refine awp_cond (b := true) (p := 2) (by simp [scal] <;> omega) ?_
  refine awp_seqR fun K hK => ?_
  simp (disch := omega) [ints, rows, scal, wr64, wr8]
  (repeat' apply And.intro)
  all_goals (try omega)
  refine call_rule (caps := []) (known28_fn) [] [] 2 (by simp [scal, rows, ints]) rfl rfl rfl (by kernel_rfl) (by simp) ?_ trivial trivial rfl trivial trivial (by simp) ?_
  ·simp [scal, rows, ints]
  simp (disch := omega) [ints, rows, scal, wr64, wr8]
  and_intros <;> try first | apply hK | omega | rfl | simp <;> omega
  refine awp_ret ?_
  refine ⟨⟨.inr rfl, _, [], rfl, trivial, trivial, by simp, ?_⟩, by simp⟩
  simp
end Go.Proofs.YtghnmmfkckneaaaGreat.M
