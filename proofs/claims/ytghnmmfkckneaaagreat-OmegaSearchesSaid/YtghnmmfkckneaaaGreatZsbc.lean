/-
  Walk in my logic: Any.
  Walks in my logic: MayLetters, Validate of automata, OfDFA, Access.
  Walks in my logic: Set, Members, Generated.
-/
import Derived.Test.YtghnmmfkckneaaaGreatZsar
import Derived.Test.YtghnmmfkckneaaaGreatZsbb
namespace Go.Proofs.YtghnmmfkckneaaaGreat.M
open Go.RowKit
set_option linter.unusedVariables false
set_option maxRecDepth 100000
set_option maxHeartbeats 32000000
attribute [local simp] ints rows scal wr64 wr8
set_option linter.unusedSimpArgs false

theorem any_fn (xs : List Int) (a L most : Nat) (ha : a ≤ xs.length) (hl : xs.length ≤ 80) (hL : L = 1 ∨ L = 2) (hm : 1 ≤ most) (hm2 : most ≤ 100) : ∃ res H', MkG L 100 xs res H' ∧
  FnS Tryz.prog 32 [.ptr 0 0 2, .t 2 (.int .i64 L), .t 2 (.int .i64 most)] [tpO 1 xs a] res H' := by
 obtain ⟨v, a1, hv, ha1, hN⟩ := next_fn xs a 6 ha hl (by omega)
 have hv := hv (by omega)
 refine fn_introGE Tryz.func32 rfl (by simp [Tryz.f32]) ?_
 rw [show Tryz.f32.ntmps = 31 from rfl, show Tryz.f32.results = #[.cell 6 67] from rfl]
 refine rgS fun K hK => ?_
 simp (disch := omega)
 and_intros <;> try first | apply hK | omega | rfl | simp <;> omega
 refine awp_seq ?_
 refine rgS fun K hK => ?_
 simp (disch := omega)
 (repeat' apply And.intro)
 all_goals (try omega)
 refine call_rule (caps := []) (hN) [0] [0] 1 rfl rfl rfl rfl (by kernel_rfl) (by simp) ?_ ?_ (by simp) rfl (by simp) ⟨.inr ⟨rfl, 0, _, _, _, _, _, rfl, rfl, rfl, rfl, rfl⟩, trivial⟩ (by simp [tpO]) ?_
 ·simp [tpO]
 ·simp [tpO]
 simp (disch := omega)
 and_intros <;> try first | apply hK | omega | rfl | simp <;> omega
 refine awp_block ?_
 by_cases h1 : (v : Int) = 1
 ·obtain ⟨res, H', ⟨n, s, b, bs, nxt, hn, hb, hD, rfl, rfl⟩, hO⟩ := ordered_fn xs a1 L most ha1 hl (by omega) (by omega) hm hm2
  refine rgS fun K hK => ?_
  simp (disch := omega) [h1]
  and_intros <;> try first | apply hK | omega | rfl | simp <;> omega
  refine condT (by simp <;> omega) ?_
  refine rgS fun K hK => ?_
  simp (disch := omega)
  (repeat' apply And.intro)
  all_goals (try omega)
  refine call_rule (caps := []) (hO) [0] [0] 1 rfl rfl rfl rfl (by kernel_rfl) (by simp) ?_ ?_ (by simp) rfl (by simp) ⟨.inr ⟨rfl, 0, _, _, _, _, _, rfl, rfl, rfl, rfl, rfl⟩, trivial⟩ (by simp [tpO]) ?_
  ·simp [tpO, dfT]
  ·simp [tpO, dfT]
  simp (disch := omega) [dfT, bools, tpO]
  and_intros <;> try first | apply hK | omega | rfl | simp <;> omega
  refine awp_ret ?_
  refine ⟨⟨_, _, ⟨n, s, b, bs, nxt, by omega, hb, hD, rfl, rfl⟩, resQ_G ?_⟩, by simp⟩
  refine ⟨.inr rfl, _, [(0, some 0)], (by first | (simp; rfl) | rfl), ?_, ?_, ?_, ?_⟩
  all_goals try simp +contextual (disch := omega) [beq_gt, beq_lt, eq_lt, eq_gt, lt_t, List.getElem?_cons_succ, Option.getD_some, callF, ints, scal, tpO, wkPs_snoc, wkPs_tab, wkT_tab, wk1, rows, bools, dfT]
 by_cases h2 : (v : Int) = 2
 ·obtain ⟨m4, hm4⟩ : ∃ m4 : Nat, (m4 : Int) = if (4 : Int) < most then 4 else (most : Int) := ⟨if 4 < most then 4 else most, by split <;> split <;> omega⟩
  have hm5 : 1 ≤ m4 ∧ m4 ≤ 100 := by split at hm4 <;> omega
  obtain ⟨res, H', ⟨n, s, b, bs, nxt, hn, hb, hD, rfl, rfl⟩, hO⟩ := permutations_fn xs a1 L m4 ha1 hl (by omega) (by omega) hm5.1 hm5.2
  refine rgS fun K hK => ?_
  simp (disch := omega) [h1]
  and_intros <;> try first | apply hK | omega | rfl | simp <;> omega
  refine condF (by simp <;> omega) ?_
  refine rgS fun K hK => ?_
  simp (disch := omega) [h2]
  and_intros <;> try first | apply hK | omega | rfl | simp <;> omega
  refine condT (by simp <;> omega) ?_
  refine rgS fun K hK => ?_
  simp (disch := omega) [← hm4]
  (repeat' apply And.intro)
  all_goals (try omega)
  refine call_rule (caps := []) (hO) [0] [0] 1 rfl rfl rfl rfl (by kernel_rfl) (by simp) ?_ ?_ (by simp) rfl (by simp) ⟨.inr ⟨rfl, 0, _, _, _, _, _, rfl, rfl, rfl, rfl, rfl⟩, trivial⟩ (by simp [tpO]) ?_
  ·simp [tpO, dfT]
  ·simp [tpO, dfT]
  simp (disch := omega) [dfT, bools, tpO]
  and_intros <;> try first | apply hK | omega | rfl | simp <;> omega
  refine awp_ret ?_
  refine ⟨⟨_, _, ⟨n, s, b, bs, nxt, by omega, hb, hD, rfl, rfl⟩, resQ_G ?_⟩, by simp⟩
  refine ⟨.inr rfl, _, [(0, some 0)], (by first | (simp; rfl) | rfl), ?_, ?_, ?_, ?_⟩
  all_goals try simp +contextual (disch := omega) [beq_gt, beq_lt, eq_lt, eq_gt, lt_t, List.getElem?_cons_succ, Option.getD_some, callF, ints, scal, tpO, wkPs_snoc, wkPs_tab, wkT_tab, wk1, rows, bools, dfT]
 by_cases h3 : (v : Int) = 3
 ·obtain ⟨res, H', ⟨n, s, b, bs, nxt, hn, hb, hD, rfl, rfl⟩, hO⟩ := definite_fn xs a1 L ha1 hl hL
  refine rgS fun K hK => ?_
  simp (disch := omega) [h1]
  and_intros <;> try first | apply hK | omega | rfl | simp <;> omega
  refine condF (by simp <;> omega) ?_
  refine rgS fun K hK => ?_
  simp (disch := omega) [h2]
  and_intros <;> try first | apply hK | omega | rfl | simp <;> omega
  refine condF (by simp <;> omega) ?_
  refine rgS fun K hK => ?_
  simp (disch := omega) [h3]
  and_intros <;> try first | apply hK | omega | rfl | simp <;> omega
  refine condT (by simp <;> omega) ?_
  refine rgS fun K hK => ?_
  simp (disch := omega)
  (repeat' apply And.intro)
  all_goals (try omega)
  refine call_rule (caps := []) (hO) [0] [0] 1 rfl rfl rfl rfl (by kernel_rfl) (by simp) ?_ ?_ (by simp) rfl (by simp) ⟨.inr ⟨rfl, 0, _, _, _, _, _, rfl, rfl, rfl, rfl, rfl⟩, trivial⟩ (by simp [tpO]) ?_
  ·simp [tpO, dfT]
  ·simp [tpO, dfT]
  simp (disch := omega) [dfT, bools, tpO]
  and_intros <;> try first | apply hK | omega | rfl | simp <;> omega
  refine awp_ret ?_
  refine ⟨⟨_, _, ⟨n, s, b, bs, nxt, by omega, hb, hD, rfl, rfl⟩, resQ_G ?_⟩, by simp⟩
  refine ⟨.inr rfl, _, [(0, some 0)], (by first | (simp; rfl) | rfl), ?_, ?_, ?_, ?_⟩
  all_goals try simp +contextual (disch := omega) [beq_gt, beq_lt, eq_lt, eq_gt, lt_t, List.getElem?_cons_succ, Option.getD_some, callF, ints, scal, tpO, wkPs_snoc, wkPs_tab, wkT_tab, wk1, rows, bools, dfT]
 ·obtain ⟨res, H', ⟨n, s, b, bs, nx, hnm, hb, hD, rfl, rfl⟩, hspec⟩ := dfa_fn xs a1 L most ha1 hl (by omega) (by omega) hm hm2
  have hbl := hD.bl
  refine rgS fun K hK => ?_
  simp (disch := omega) [h1]
  and_intros <;> try first | apply hK | omega | rfl | simp <;> omega
  refine condF (by simp <;> omega) ?_
  refine rgS fun K hK => ?_
  simp (disch := omega) [h2]
  and_intros <;> try first | apply hK | omega | rfl | simp <;> omega
  refine condF (by simp <;> omega) ?_
  refine rgS fun K hK => ?_
  simp (disch := omega) [h3]
  and_intros <;> try first | apply hK | omega | rfl | simp <;> omega
  refine condF (by simp <;> omega) ?_
  refine awp_skip ?_
  show awp _ _ _ _
  refine rgS fun K hK => ?_
  simp (disch := omega)
  (repeat' apply And.intro)
  all_goals (try omega)
  refine call_ruleF (caps := []) hspec [0] [0, 12000001, 12000002] 12000003 1 rfl rfl rfl rfl (by kernel_rfl) (by simp) ?_ ?_ (by simp) rfl (by simp) ⟨.inr ⟨rfl, 0, _, _, _, _, _, rfl, rfl, rfl, rfl, rfl⟩, .inl (by omega), .inl (by omega), trivial⟩ (by omega) (by intro k hk; simp at hk; omega) (by simp [tpO, dfH]) (fun j hj => rfl) ?_
  ·simp [tpO]
  ·simp [tpO]
  have q1 : (poF [0, 12000001, 12000002] 12000003 n)[1]?.getD 0 = 12000001 := by simp [poF]
  have q2 : (poF [0, 12000001, 12000002] 12000003 n)[2]?.getD 0 = 12000002 := by simp [poF]
  simp (disch := omega) [KL_ap, KD_ap, awpL_nil, awpL_cons, awpD_nil, awpD_cons, awpOp, awpOpD, wrE, gd, aop, aBuiltin, aNil, aMin, ASt.eval, AV.ofV, dstOk, ASt.app, Eff.heap, dels, upd_b, aLoad, aStore, aField, aFieldV, aIndexAddr, aIndex, aSlice, aSliceO, aLen, aBin, iB, sB, aUn, aConv, aAlloc, aBox, aBuild, afill, avCells, AV.leaf, setR, aBuildSlice, frz, frzL, isOwn, vecOf, tsOf, aMake, srcOf, aAppend, aMkMap, aMapUpd, aLookup, oint, cut, putL, AObj.cnt, mkS, envOf_nil, envOf_cons, heapOf_nil, heapOf_cons, argS, Nat.blt_eq, callS, outV, outVs, outO, heap2, addL, delL, ints, rows, scal, wr64, wr8, List.getElem?_cons_zero, callF, q1, q2, outVs_fam (show 3 = [0, 12000001, 12000002].length from rfl), dfH, tpO, ovr_lt]
  and_intros <;> try first | apply hK | omega | rfl | simp <;> omega
  refine awp_ret ?_
  refine ⟨⟨_, _, ⟨n, s, b, bs, tab n nx, by omega, hb, hD.list, rfl, rfl⟩, resQ_G ?_⟩, by simp [callF]⟩
  refine ⟨.inr rfl, _, [(0, some 0)], (by first | (simp; rfl) | rfl), ?_, ?_, ?_, ?_⟩
  all_goals try simp +contextual (disch := omega) [beq_gt, beq_lt, eq_lt, eq_gt, lt_t, List.getElem?_cons_succ, Option.getD_some, callF, ints, scal, tpO, wkPs_snoc, wkPs_tab, wkT_tab, wk1, rows, bools, dfT, tab_map, hbl]
  exact fun j hj => (hD.row j hj).1

set_option maxRecDepth 100000
set_option maxHeartbeats 32000000
attribute [local simp] ints rows scal wr64 wr8
set_option linter.unusedSimpArgs false

theorem mayLetters_fn (x : Int) : FnA Tryz.prog 93 [.t 2 (.int .i64 x)] (.t 2 (.bool (decide (1 ≤ x ∧ x ≤ 6)))) := by
 refine fn_intro Tryz.func93 rfl (by simp [Tryz.f93]) ?_
 rw [show Tryz.f93.ntmps = 9 from rfl, show Tryz.f93.results = #[.tmp 2] from rfl]
 refine rgS fun K hK => ?_
 simp (disch := omega)
 (repeat' first | apply hK | apply And.intro) <;> try first | omega | rfl | (simp <;> omega)
 by_cases h1 : 1 ≤ x
 ·refine rgS fun K hK => ?_
  simp (disch := omega) [h1]
  and_intros <;> try first | apply hK | omega | rfl | simp <;> omega
  refine awp_ret ?_
  refine ⟨⟨.inr rfl, _, [], rfl, trivial, trivial, by simp, ?_⟩, by simp⟩
  simp
  simp [h1]
 ·refine rgS fun K hK => ?_
  simp (disch := omega) [h1]
  and_intros <;> try first | apply hK | omega | rfl | simp <;> omega
  refine awp_ret ?_
  refine ⟨⟨.inr rfl, _, [], rfl, trivial, trivial, by simp, ?_⟩, by simp⟩
  simp
  omega
theorem DfL.rt {L n s : Nat} {bs : List Bool} {nxt : List (List Int)} (h : DfL L n s bs nxt) : RtOK L n nxt :=
 ⟨h.nl, fun i r hr => by
  obtain ⟨h1, h2⟩ := h.row r (List.mem_of_getElem? hr)
  refine ⟨h1, fun x j hx => ?_⟩
  obtain ⟨h3, h4⟩ := h2 j (List.mem_of_getElem? hx)
  exact ⟨j.toNat, by omega, by omega⟩⟩
theorem validate07_fn {L n s : Nat} {bs : List Bool} {nxt : List (List Int)} (h : DfL L n s bs nxt) (hL : 1 ≤ L) (hL2 : L ≤ 6) (hn : n ≤ 512) : FnA Tryz.prog 60 [dfT 0 L s bs nxt] (.t 2 (.int .i64 0)) := by
 have hn1 := h.n1
 have hst := h.st
 have hbl := h.bl
 have hnl := h.nl
 refine fn_intro Tryz.func60 rfl (by simp [Tryz.f60]) ?_
 rw [show Tryz.f60.ntmps = 64 from rfl, show Tryz.f60.results = #[.tmp 2] from rfl]
 refine rgS fun K hK => ?_
 simp (disch := omega) [dfT, bools]
 and_intros <;> try first | apply hK | omega | rfl | simp <;> omega
 refine rgS fun K hK => ?_
 simp (disch := omega) [hbl]
 and_intros <;> try first | apply hK | omega | rfl | simp <;> omega
 refine awp_seq ?_
 refine rgS fun K hK => ?_
 simp (disch := omega)
 (repeat' apply And.intro)
 all_goals (try omega)
 refine callO (mayLetters_fn (L : Int)) rfl rfl rfl rfl (by kernel_rfl) (by simp) ?_ ?_
 ·simp
 simp (disch := omega) [show (1 : Int) ≤ L ∧ (L : Int) ≤ 6 from ⟨by omega, by omega⟩]
 and_intros <;> try first | apply hK | omega | rfl | simp <;> omega
 refine condF (by simp <;> omega) ?_
 refine awp_skip ?_
 show awp _ _ _ _
 refine awp_seq ?_
 refine rgS fun K hK => ?_
 simp (disch := omega)
 and_intros <;> try first | apply hK | omega | rfl | simp <;> omega
 refine condF (by simp <;> omega) ?_
 refine awp_skip ?_
 show awp _ _ _ _
 refine awp_seq ?_
 have d1 : ((n : Int) == 0) = false := by simp; omega
 have d4 : decide ((s : Int) ≥ n) = false := by simp; omega
 have d3 : decide ((s : Int) < 0) = false := by simp
 refine rgS fun K hK => ?_
 simp (disch := omega) [d1, d3, d4, hnl]
 and_intros <;> try first | apply hK | omega | rfl | simp <;> omega
 refine condF (by simp <;> omega) ?_
 refine awp_skip ?_
 show awp _ _ _ _
 refine awp_seq ?_
 refine rgS fun K hK => ?_
 simp (disch := omega)
 and_intros <;> try first | apply hK | omega | rfl | simp <;> omega
 refine awp_block ?_
 refine awp_loop (fun y : Nat => mkS [(1, .ptr 0 0 4), (3, .t 2 (.int .i64 n)), (38, .t 0 (rows nxt)), (39, .t 2 (.int .i64 n)), (40, .t 2 (.int .i64 y))] [(0, .box 67 [.t 2 (.int .i64 L), .t 2 (.int .i64 s), .t 0 (bools bs), .t 0 (rows nxt)])] 1 64 [.any]) (fun y => y ≤ n) (fun y => n - y) ?_ ?_
 ·refine ⟨0, by omega, ?_⟩
  refine wk_list [(0, some 0)] rfl ?_ ?_ ?_ ?_
  all_goals try simp [bools, hbl, hnl, dfT]
 ·intro q hq
  refine rgS fun K hK => ?_
  simp (disch := omega)
  and_intros <;> try first | apply hK | omega | rfl | simp <;> omega
  refine awp_seq ?_
  by_cases hqn : q < n
  ·have hqx : q < nxt.length := by omega
   obtain ⟨hrl, hrv⟩ := h.row nxt[q] (by simp)
   refine condT (by simp [hqn] <;> omega) ?_
   refine awp_skip ?_
   show awp _ _ _ _
   refine awp_seq ?_
   refine awp_block ?_
   refine rgS fun K hK => ?_
   simp (disch := omega) [hqx]
   and_intros <;> try first | apply hK | omega | rfl | simp <;> omega
   refine awp_seq ?_
   refine rgS fun K hK => ?_
   simp (disch := omega) [hrl]
   and_intros <;> try first | apply hK | omega | rfl | simp <;> omega
   refine condF (by simp <;> omega) ?_
   refine awp_skip ?_
   show awp _ _ _ _
   refine rgS fun K hK => ?_
   simp (disch := omega) [hrl]
   and_intros <;> try first | apply hK | omega | rfl | simp <;> omega
   refine awp_block ?_
   refine awp_loop (fun y : Nat => mkS [(1, .ptr 0 0 4), (3, .t 2 (.int .i64 n)), (38, .t 0 (rows nxt)), (39, .t 2 (.int .i64 n)), (40, .t 2 (.int .i64 q)), (49, .t 0 (ints nxt[q])), (50, .t 2 (.int .i64 L)), (51, .t 2 (.int .i64 y))] [(0, .box 67 [.t 2 (.int .i64 L), .t 2 (.int .i64 s), .t 0 (bools bs), .t 0 (rows nxt)])] 1 64 [.any]) (fun y => y ≤ L) (fun y => L - y) ?_ ?_
   ·refine ⟨0, by omega, ?_⟩
    refine wk_list [(0, some 0)] rfl ?_ ?_ ?_ ?_
    all_goals try simp [bools]
   ·intro x hx
    refine rgS fun K hK => ?_
    simp (disch := omega)
    and_intros <;> try first | apply hK | omega | rfl | simp <;> omega
    refine awp_seq ?_
    by_cases hxl : x < L
    ·have hxr : x < nxt[q].length := by omega
     obtain ⟨e1, e2⟩ := hrv nxt[q][x] (by simp)
     have e3 : ¬ nxt[q][x] < 0 := by omega
     have e4 : ¬ (n : Int) ≤ nxt[q][x] := by omega
     refine condT (by simp [hxl] <;> omega) ?_
     refine awp_skip ?_
     show awp _ _ _ _
     refine awp_seq ?_
     refine awp_block ?_
     refine rgS fun K hK => ?_
     simp (disch := omega) [hxr]
     and_intros <;> try first | apply hK | omega | rfl | simp <;> omega
     refine rgS fun K hK => ?_
     simp (disch := omega) [e3, e4]
     and_intros <;> try first | apply hK | omega | rfl | simp <;> omega
     refine condF (by simp <;> omega) ?_
     refine awp_skip ?_
     show awp _ _ _ _
     refine rgL fun K hK => ?_
     simp (disch := omega)
     (repeat' first | apply hK | apply And.intro) <;> try first | omega | rfl | (simp <;> omega)
     refine ⟨x + 1, by omega, by omega, ?_⟩
     refine wk_list [(0, some 0)] rfl ?_ ?_ ?_ ?_
     all_goals try simp [bools]
    ·refine condF (by simp [hxl] <;> omega) ?_
     refine awp_exit ?_
     show awp _ _ _ _
     refine rgL fun K hK => ?_
     simp (disch := omega)
     (repeat' first | apply hK | apply And.intro) <;> try first | omega | rfl | (simp <;> omega)
     refine ⟨q + 1, by omega, by omega, ?_⟩
     refine wk_list [(0, some 0)] rfl ?_ ?_ ?_ ?_
     all_goals try simp [bools]
  ·refine condF (by simp [hqn] <;> omega) ?_
   refine awp_exit ?_
   show awp _ _ _ _
   refine rgS fun K hK => ?_
   simp (disch := omega)
   and_intros <;> try first | apply hK | omega | rfl | simp <;> omega
   refine awp_ret ?_
   refine ⟨⟨.inr rfl, _, [], rfl, trivial, trivial, by simp [dfT], ?_⟩, by simp [dfT]⟩
   simp [dfT]
def lets (n : Nat) (nxt : List (List Int)) (x : Nat) : List Int := tab n fun q => (stepR nxt q x : Int)
theorem ofDFA_fn {L n s : Nat} {bs : List Bool} {nxt : List (List Int)} (h : DfL L n s bs nxt) (hL : 1 ≤ L) (hL2 : L ≤ 6) (hn : n ≤ 512) : FnA Tryz.prog 63 [dfT 0 L s bs nxt] (.t 2 (rows (tab L (lets n nxt)))) := by
 have hnl := h.nl
 have hrt := h.rt
 refine fn_intro Tryz.func63 rfl (by simp [Tryz.f63]) ?_
 rw [show Tryz.f63.ntmps = 36 from rfl, show Tryz.f63.results = #[.tmp 2] from rfl]
 refine rgS fun K hK => ?_
 simp (disch := omega) [dfT, bools]
 and_intros <;> try first | apply hK | omega | rfl | simp <;> omega
 refine rgS fun K hK => ?_
 simp (disch := omega)
 and_intros <;> try first | apply hK | omega | rfl | simp <;> omega
 refine awp_seq ?_
 refine rgS fun K hK => ?_
 simp (disch := omega)
 and_intros <;> try first | apply hK | omega | rfl | simp <;> omega
 refine awp_block ?_
 refine awp_loop (fun y : Nat => mkS [(1, .ptr 0 0 4), (3, .own 1 y), (4, .t 2 (.int .i64 y))] [(0, .box 67 [.t 2 (.int .i64 L), .t 2 (.int .i64 s), .t 0 (bools bs), .t 0 (rows nxt)]), (1, .row 22 1 2 ((tab y (lets n nxt)).map ints))] 2 36 [.any]) (fun y => y ≤ L) (fun y => L - y) ?_ ?_
 ·refine ⟨0, by omega, ?_⟩
  refine wk_list [(0, some 0), (1, none)] rfl ?_ ?_ ?_ ?_
  all_goals try simp [bools, dfT]
 ·intro x hx
  refine awp_seq ?_
  refine rgS fun K hK => ?_
  simp (disch := omega)
  (repeat' first | apply hK | apply And.intro) <;> try first | omega | rfl | (simp <;> omega)
  by_cases hxl : x < L
  ·refine condT (by simp [hxl] <;> omega) ?_
   refine awp_skip ?_
   show awp _ _ _ _
   refine awp_seq ?_
   refine awp_block ?_
   refine rgS fun K hK => ?_
   simp (disch := omega)
   and_intros <;> try first | apply hK | omega | rfl | simp <;> omega
   refine awp_seq ?_
   refine rgS fun K hK => ?_
   simp (disch := omega)
   and_intros <;> try first | apply hK | omega | rfl | simp <;> omega
   refine awp_block ?_
   refine awp_loop (fun y : Nat => mkS [(1, .ptr 0 0 4), (3, .own 1 x), (4, .t 2 (.int .i64 x)), (5, .own 2 y), (15, .t 2 (.int .i64 n)), (16, .t 2 (.int .i64 y))] [(0, .box 67 [.t 2 (.int .i64 L), .t 2 (.int .i64 s), .t 0 (bools bs), .t 0 (rows nxt)]), (1, .row 22 1 2 ((tab x (lets n nxt)).map ints)), (2, .row 3 1 2 ((tab y fun q => (stepR nxt q x : Int)).map (.int .i64)))] 3 36 [.any]) (fun y => y ≤ n) (fun y => n - y) ?_ ?_
   ·refine ⟨0, by omega, ?_⟩
    refine wk_list [(0, some 0), (1, some 1), (2, none)] rfl ?_ ?_ ?_ ?_
    all_goals try simp [bools, hnl]
   ·intro q hq
    refine rgS fun K hK => ?_
    simp (disch := omega)
    and_intros <;> try first | apply hK | omega | rfl | simp <;> omega
    refine awp_seq ?_
    by_cases hqn : q < n
    ·obtain ⟨s1, s2, s3, s4⟩ := hrt.step hqn hxl
     refine condT (by simp [hqn] <;> omega) ?_
     refine awp_skip ?_
     show awp _ _ _ _
     refine awp_seq ?_
     refine awp_block ?_
     refine rgS fun K hK => ?_
     simp (disch := omega)
     and_intros <;> try first | apply hK | omega | rfl | simp <;> omega
     refine rgL fun K hK => ?_
     simp (disch := omega) [s2, s3, s4]
     and_intros <;> try first | apply hK | omega | rfl | simp <;> omega
     show awp _ _ _ _
     refine rgL fun K hK => ?_
     simp (disch := omega)
     (repeat' first | apply hK | apply And.intro) <;> try first | omega | rfl | (simp <;> omega)
     refine ⟨q + 1, by omega, by omega, ?_⟩
     refine wk_list [(0, some 0), (1, some 1), (2, some 2)] rfl ?_ ?_ ?_ ?_
     all_goals try simp [bools, tab_succ]
    ·have hqe : q = n := by omega
     subst hqe
     refine condF (by simp <;> omega) ?_
     refine awp_exit ?_
     show awp _ _ _ _
     refine rgL fun K hK => ?_
     simp (disch := omega)
     and_intros <;> try first | apply hK | omega | rfl | simp <;> omega
     show awp _ _ _ _
     refine rgL fun K hK => ?_
     simp (disch := omega)
     (repeat' first | apply hK | apply And.intro) <;> try first | omega | rfl | (simp <;> omega)
     refine ⟨x + 1, by omega, by omega, ?_⟩
     refine wk_list [(0, some 0), (1, some 1)] rfl ?_ ?_ ?_ ?_
     all_goals try simp [bools, tab_succ]
     rfl
  ·have hxe : x = L := by omega
   subst hxe
   refine condF (by simp <;> omega) ?_
   refine awp_exit ?_
   show awp _ _ _ _
   refine rgS fun K hK => ?_
   simp (disch := omega)
   and_intros <;> try first | apply hK | omega | rfl | simp <;> omega
   refine awp_ret ?_
   refine ⟨⟨.inr rfl, _, [], rfl, trivial, trivial, by simp [dfT], ?_⟩, by simp [dfT]⟩
   simp [dfT]
theorem DfL.gn {L n s : Nat} {bs : List Bool} {nxt : List (List Int)} (h : DfL L n s bs nxt) (hL : 1 ≤ L) (hL2 : L ≤ 6) (hn : n ≤ 32) : GnOK n (tab L (lets n nxt)) := by
 refine ⟨h.n1, hn, by simpa using hL, by simpa using hL2, fun g hg => ?_⟩
 simp only [tab, List.mem_map, List.mem_range] at hg
 obtain ⟨x, hx, rfl⟩ := hg
 refine ⟨by simp [lets], fun v hv => ?_⟩
 simp only [lets, tab, List.mem_map, List.mem_range] at hv
 obtain ⟨q, hq, rfl⟩ := hv
 have := (h.rt.step hq hx).1
 omega
theorem nodupLe {n : Nat} : ∀ {l : List Nat}, l.Nodup → (∀ x ∈ l, x < n) → l.length ≤ n := by
 induction n with
 | zero =>
  intro l _ h
  cases l with
  | nil => simp
  | cons a l => have := h a (by simp); omega
 | succ n ih =>
  intro l hd h
  by_cases hm : n ∈ l
  ·have h1 := ih (hd.erase n) (fun x hx => by
    have := h x (List.mem_of_mem_erase hx)
    have hne : x ≠ n := fun e => by subst e; exact (hd.not_mem_erase) hx
    omega)
   have := List.length_erase_of_mem hm
   have : 0 < l.length := List.length_pos_of_mem hm
   omega
  ·have := ih hd (fun x hx => by
    have := h x hx
    have hne : x ≠ n := fun e => hm (e ▸ hx)
    omega)
   omega
structure AcI (n L s : Nat) (nxt : List (List Int)) (ss : List Nat) (wds : List (List Nat)) (met : Nat → Bool) (i x : Nat) : Prop where
 nod : ss.Nodup
 rng : ∀ q ∈ ss, q < n
 fst : ss[0]? = some s
 met : ∀ q, q < n → (met q = true ↔ q ∈ ss)
 done : ∀ (j y : Nat) q, j < i → ss[j]? = some q → y < L → stepR nxt q y ∈ ss
 row : ∀ (y : Nat) q, y < x → ss[i]? = some q → stepR nxt q y ∈ ss
 wl : wds.length = ss.length
 wn : ∀ (j : Nat) w, wds[j]? = some w → w.length ≤ j
section
variable {n L s : Nat} {nxt : List (List Int)} {ss : List Nat} {wds : List (List Nat)} {met : Nat → Bool} {i x : Nat}
theorem AcI.start (hs : s < n) : AcI n L s nxt [s] [[]] (fun j => decide (j = s)) 0 0 :=
 ⟨by simp, fun q hq => by simp at hq; omega, rfl, fun q _ => by simp, fun j y q h => by omega, fun y q h => by omega, rfl, fun j w h => by cases j <;> simp at h; subst h; simp⟩
theorem AcI.len (h : AcI n L s nxt ss wds met i x) : ss.length ≤ n := nodupLe h.nod h.rng
theorem AcI.old (h : AcI n L s nxt ss wds met i x) {p : Nat} (hi : ss[i]? = some p) (hq : stepR nxt p x < n) (hm : met (stepR nxt p x) = true) : AcI n L s nxt ss wds met i (x + 1) :=
 ⟨h.nod, h.rng, h.fst, h.met, h.done, fun y q hy hq2 => by
  by_cases e : y = x
  ·subst e
   rw [hi] at hq2
   injection hq2 with hq2
   subst hq2
   exact (h.met _ hq).1 hm
  ·exact h.row y q (by omega) hq2, h.wl, h.wn⟩
theorem AcI.add (h : AcI n L s nxt ss wds met i x) {p : Nat} (hi : ss[i]? = some p) (hq : stepR nxt p x < n) (hm : met (stepR nxt p x) = false) {w : List Nat} (hw : wds[i]? = some w) : AcI n L s nxt (ss ++ [stepR nxt p x]) (wds ++ [w ++ [x]]) (fun j => if j = stepR nxt p x then true else met j) i (x + 1) := by
 have hni : stepR nxt p x ∉ ss := fun hc => by rw [(h.met _ hq).2 hc] at hm; cases hm
 have hil := (List.getElem?_eq_some_iff.1 hi).1
 have key : ∀ (j : Nat) q, j ≤ i → (ss ++ [stepR nxt p x])[j]? = some q → ss[j]? = some q := fun j q hj hq => by rwa [List.getElem?_append_left (by omega)] at hq
 refine ⟨?_, fun q hqm => ?_, by rw [List.getElem?_append_left (by omega)]; exact h.fst, fun q hqn => ?_, fun j y q hj hjl hy => List.mem_append_left _ (h.done j y q hj (key j q (by omega) hjl) hy), fun y q hy hiq => ?_, by simp [h.wl], fun j u hu => ?_⟩
 ·rw [List.nodup_append]
  exact ⟨h.nod, by simp, fun a ha b hb => by simp at hb; subst hb; exact fun e => hni (e ▸ ha)⟩
 ·rcases List.mem_append.1 hqm with hqm | hqm
  ·exact h.rng q hqm
  ·simp at hqm; omega
 ·by_cases e : q = stepR nxt p x
  ·simp [e]
  ·simp [e, h.met q hqn]
 ·have hiq2 := key i q (Nat.le_refl _) hiq
  by_cases e : y = x
  ·subst e
   rw [hi] at hiq2
   injection hiq2 with hiq2
   rw [← hiq2]
   simp
  ·exact List.mem_append_left _ (h.row y q (by omega) hiq2)
 ·by_cases hjl : j < wds.length
  ·rw [List.getElem?_append_left hjl] at hu; exact h.wn j u hu
  ·have := (List.getElem?_eq_some_iff.1 hu).1
   simp at this
   have e : j = wds.length := by omega
   subst e
   simp at hu
   subst hu
   have := h.wn i w hw
   have := h.wl
   simp; omega
theorem AcI.next (h : AcI n L s nxt ss wds met i L) : AcI n L s nxt ss wds met (i + 1) 0 :=
 ⟨h.nod, h.rng, h.fst, h.met, fun j y q hj hjl hy => by
  by_cases e : j = i
  ·subst e; exact h.row y q hy hjl
  ·exact h.done j y q (by omega) hjl hy, fun y q hy => by omega, h.wl, h.wn⟩
end
structure AcG (n L s : Nat) (nxt : List (List Int)) (ss : List Nat) : Prop where
 nod : ss.Nodup
 rng : ∀ q ∈ ss, q < n
 fst : ss[0]? = some s
 cl : ∀ q ∈ ss, ∀ y, y < L → stepR nxt q y ∈ ss
def natsT (ss : List Nat) : List T := ss.map fun (q : Nat) => .int .i64 (q : Int)
theorem access_fn {L n s : Nat} {bs : List Bool} {nxt : List (List Int)} (h : DfL L n s bs nxt) (hL : 1 ≤ L) (hL2 : L ≤ 6) (hn : n ≤ 512) : ∃ res, (∃ ss wds, AcG n L s nxt ss ∧ res = .tup [.t 2 (.sl 1 (natsT ss)), .t 2 (.sl 1 (wsT wds))]) ∧ FnS Tryz.prog 113 [dfT 0 L s bs nxt] [] res [] := by
 have hnl := h.nl
 have hbl := h.bl
 have hst := h.st
 have hrt := h.rt
 refine fn_introE Tryz.func113 rfl (by simp [Tryz.f113]) ?_
 rw [show Tryz.f113.ntmps = 72 from rfl, show Tryz.f113.results = #[.tmp 2, .tmp 3] from rfl]
 refine rgS fun K hK => ?_
 simp (disch := omega) [dfT, bools]
 and_intros <;> try first | apply hK | omega | rfl | simp <;> omega
 refine rgS fun K hK => ?_
 simp (disch := omega)
 and_intros <;> try first | apply hK | omega | rfl | simp <;> omega
 refine rgS fun K hK => ?_
 simp (disch := omega)
 and_intros <;> try first | apply hK | omega | rfl | simp <;> omega
 refine rgS fun K hK => ?_
 simp (disch := omega) [hbl]
 and_intros <;> try first | apply hK | omega | rfl | simp <;> omega
 refine awp_seq ?_
 refine rgS fun K hK => ?_
 simp (disch := omega)
 and_intros <;> try first | apply hK | omega | rfl | simp <;> omega
 refine awp_block ?_
 refine awp_loop (fun y : Nat × List Nat × List (List Nat) × (Nat → Bool) => mkS [(1, .ptr 0 0 4), (4, .own 1 y.2.1.length), (5, .own 2 y.2.2.1.length), (6, .own 3 n), (7, .t 2 (.int .i64 y.1))] [(0, .box 67 [.t 2 (.int .i64 L), .t 2 (.int .i64 s), .t 0 (bools bs), .t 0 (rows nxt)]), (1, .row 3 1 2 (natsT y.2.1)), (2, .row 9 1 2 (wsT y.2.2.1)), (3, .row 4 1 2 (tab n fun j => .bool (y.2.2.2 j)))] 4 72 [.any]) (fun y => AcI n L s nxt y.2.1 y.2.2.1 y.2.2.2 y.1 0) (fun y => n - y.1) ?_ ?_
 ·refine ⟨(0, [s], [[]], fun j => decide (j = s)), AcI.start hst, ?_⟩
  refine wk_list [(0, some 0), (1, some 5000000), (2, some 6000000), (3, some 12000000)] rfl ?_ ?_ ?_ ?_
  all_goals try simp [bools, dfT, hbl, natsT, wsT, strL_nil]
  rw [rep_tab, tab_set]
  refine tab_congr (fun i hi => ?_)
  by_cases e : i = s <;> simp [e]
 ·rintro ⟨i, ss, wds, met⟩ hI
  simp only at hI
  have hlen := hI.len
  refine awp_seq ?_
  refine rgS fun K hK => ?_
  simp (disch := omega) [natsT]
  (repeat' first | apply hK | apply And.intro) <;> try first | omega | rfl | (simp <;> omega)
  by_cases hil : i < ss.length
  ·refine condT (by simp [hil] <;> omega) ?_
   refine awp_skip ?_
   show awp _ _ _ _
   refine awp_seq ?_
   refine awp_block ?_
   refine rgS fun K hK => ?_
   simp (disch := omega)
   and_intros <;> try first | apply hK | omega | rfl | simp <;> omega
   refine awp_block ?_
   refine awp_loop (fun y : Nat × List Nat × List (List Nat) × (Nat → Bool) => mkS [(1, .ptr 0 0 4), (4, .own 1 y.2.1.length), (5, .own 2 y.2.2.1.length), (6, .own 3 n), (7, .t 2 (.int .i64 i)), (8, .t 2 (.int .i64 y.1))] [(0, .box 67 [.t 2 (.int .i64 L), .t 2 (.int .i64 s), .t 0 (bools bs), .t 0 (rows nxt)]), (1, .row 3 1 2 (natsT y.2.1)), (2, .row 9 1 2 (wsT y.2.2.1)), (3, .row 4 1 2 (tab n fun j => .bool (y.2.2.2 j)))] 4 72 [.any]) (fun y => y.1 ≤ L ∧ i < y.2.1.length ∧ AcI n L s nxt y.2.1 y.2.2.1 y.2.2.2 i y.1) (fun y => L - y.1) ?_ ?_
   ·refine ⟨(0, ss, wds, met), ⟨by simp, hil, hI⟩, ?_⟩
    refine wk_list [(0, some 0), (1, some 1), (2, some 2), (3, some 3)] rfl ?_ ?_ ?_ ?_
    all_goals try simp [bools, natsT]
   ·clear hI hlen hil
    rintro ⟨x, ss, wds, met⟩ ⟨hx, hil, hI⟩
    simp only at hx hil hI
    have hlen := hI.len
    have hwl := hI.wl
    have hiw : i < wds.length := by omega
    have hwn := hI.wn i wds[i] (by simp)
    refine awp_seq ?_
    refine rgS fun K hK => ?_
    simp (disch := omega)
    (repeat' first | apply hK | apply And.intro) <;> try first | omega | rfl | (simp <;> omega)
    by_cases hxl : x < L
    ·have hpn := hI.rng ss[i] (by simp)
     obtain ⟨s1, s2, s3, s4⟩ := hrt.step hpn hxl
     refine condT (by simp [hxl] <;> omega) ?_
     refine awp_skip ?_
     show awp _ _ _ _
     refine awp_seq ?_
     refine awp_block ?_
     refine awp_seqD (by kernel_rfl) (fun K hK => ?_)
     simp (disch := omega) [natsT, hil, s2, s3, s4]
     and_intros <;> try first | apply hK | (show chkD _ _ = true; kernel_rfl) | omega | rfl | simp <;> omega
     refine rgS fun K hK => ?_
     simp (disch := omega) [s1]
     (repeat' first | apply hK | apply And.intro) <;> try first | omega | rfl | (simp <;> omega)
     cases hm : met (stepR nxt ss[i] x) with
     | false =>
      refine condT (by simp [hm] <;> omega) ?_
      refine rgS fun K hK => ?_
      simp (disch := omega) [s1]
      and_intros <;> try first | apply hK | omega | rfl | simp <;> omega
      refine awp_RD (by kernel_rfl) (fun K hK => ?_)
      simp (disch := omega) [isU8, wsT, hiw, strL_one (show x ≤ 20 by omega), strL_append]
      and_intros <;> try first | apply hK | (show chkD _ _ = true; kernel_rfl) | omega | rfl | simp <;> omega
      show awp _ _ _ _
      refine rgL fun K hK => ?_
      simp (disch := omega)
      (repeat' first | apply hK | apply And.intro) <;> try first | omega | rfl | (simp <;> omega)
      refine ⟨(x + 1, ss ++ [stepR nxt ss[i] x], wds ++ [wds[i] ++ [x]], fun j => if j = stepR nxt ss[i] x then true else met j), ⟨by omega, by simp; omega, hI.add (by simp) s1 hm (by simp)⟩, by simp; omega, ?_⟩
      refine wk_list [(0, some 0), (1, some 1), (2, some 2), (3, some 3)] rfl ?_ ?_ ?_ ?_
      all_goals try simp [bools, natsT, wsT, tab_set]
      refine tab_congr (fun j hj => ?_)
      by_cases e : j = stepR nxt ss[i] x <;> simp [e]
     | true =>
      refine condF (by simp [hm] <;> omega) ?_
      refine awp_skip ?_
      show awp _ _ _ _
      refine rgL fun K hK => ?_
      simp (disch := omega)
      (repeat' first | apply hK | apply And.intro) <;> try first | omega | rfl | (simp <;> omega)
      refine ⟨(x + 1, ss, wds, met), ⟨by omega, hil, hI.old (by simp) s1 hm⟩, by simp; omega, ?_⟩
      refine wk_list [(0, some 0), (1, some 1), (2, some 2), (3, some 3)] rfl ?_ ?_ ?_ ?_
      all_goals try simp [bools, natsT]
    ·have hxe : x = L := by omega
     subst hxe
     refine condF (by simp <;> omega) ?_
     refine awp_exit ?_
     show awp _ _ _ _
     refine rgL fun K hK => ?_
     simp (disch := omega)
     (repeat' first | apply hK | apply And.intro) <;> try first | omega | rfl | (simp <;> omega)
     refine ⟨(i + 1, ss, wds, met), hI.next, by simp; omega, ?_⟩
     refine wk_list [(0, some 0), (1, some 1), (2, some 2), (3, some 3)] rfl ?_ ?_ ?_ ?_
     all_goals try simp [bools, natsT]
  ·refine condF (by simp [hil] <;> omega) ?_
   refine awp_exit ?_
   show awp _ _ _ _
   refine rgS fun K hK => ?_
   simp (disch := omega)
   and_intros <;> try first | apply hK | omega | rfl | simp <;> omega
   refine awp_ret ?_
   refine ⟨_, ⟨ss, wds, ⟨hI.nod, hI.rng, hI.fst, fun q hq y hy => ?_⟩, rfl⟩, ?_⟩
   ·obtain ⟨j, hj, e⟩ := List.getElem_of_mem hq
    exact hI.done j y q (by omega) (by simp [← e]) hy
   ·refine ⟨⟨.inr rfl, _, [], rfl, trivial, trivial, by simp [dfT, natsT, wsT], ?_⟩, by simp [dfT, natsT, wsT]⟩
    simp [dfT, natsT, wsT]
end Go.Proofs.YtghnmmfkckneaaaGreat.M

namespace Go.Proofs.YtghnmmfkckneaaaGreat.M
open Go.RowKit
set_option linter.unusedVariables false
set_option maxRecDepth 100000
set_option maxHeartbeats 32000000
attribute [local simp] ints rows scal wr64 wr8
set_option linter.unusedSimpArgs false

def boolT (n : Nat) (g : Nat → Bool) : List T := tab n fun i => .bool (g i)
theorem boolT_get {n : Nat} {g : Nat → Bool} {i : Nat} (h : i < n) : (boolT n g)[i]? = some (.bool (g i)) := tab_get _ h
@[simp] theorem boolT_len (n : Nat) (g : Nat → Bool) : (boolT n g).length = n := by simp [boolT]
@[simp] theorem lvs_boolT (p n : Nat) (g : Nat → Bool) : lvs p (boolT n g) = 2 := by
 unfold lvs boolT tab; rw [if_pos]; simp
def setB (xs : List Int) (i : Nat) : Bool := decide ((i : Int) ∈ xs)
theorem set_fn (xs : List Int) (n : Nat) (hn : n ≤ 1000000) (hl : xs.length ≤ 1000000) : FnS Tryz.prog 117 [.t 0 (ints xs), .t 2 (.int .i64 n)] [] (.own 0 n) [.row 4 1 2 (boolT n (setB xs))] := by
 refine fn_intro Tryz.func117 rfl (by simp [Tryz.f117]) ?_
 rw [show Tryz.f117.ntmps = 28 from rfl, show Tryz.f117.results = #[.tmp 4] from rfl]
 refine rgS fun K hK => ?_
 simp (disch := omega)
 and_intros <;> try first | apply hK | omega | rfl | simp <;> omega
 refine rgS fun K hK => ?_
 simp (disch := omega)
 and_intros <;> try first | apply hK | omega | rfl | simp <;> omega
 refine awp_seq ?_
 refine rgS fun K hK => ?_
 simp (disch := omega)
 and_intros <;> try first | apply hK | omega | rfl | simp <;> omega
 refine awp_block ?_
 refine awp_loop (fun k : Nat => mkS [(1, .t 2 (.int .i64 n)), (5, .own 0 n), (10, .t 0 (ints xs)), (11, .t 2 (.int .i64 xs.length)), (12, .t 2 (.int .i64 k))] [(0, .row 4 1 2 (boolT n (setB (xs.take k))))] 1 28 [.any, .any]) (fun k => k ≤ xs.length) (fun k => xs.length - k) ?_ ?_
 ·refine ⟨0, by omega, ?_⟩
  refine wk_list [(0, some 2000000)] rfl ?_ ?_ ?_ ?_
  all_goals try simp [rep_tab, boolT, setB]
 ·intro k hk
  refine rgS fun K hK => ?_
  simp (disch := omega)
  and_intros <;> try first | apply hK | omega | rfl | simp <;> omega
  refine awp_seq ?_
  by_cases hkl : k < xs.length
  ·have hst : ∀ i, setB (xs.take (k + 1)) i = (setB (xs.take k) i || decide ((i : Int) = xs[k])) := fun i => by
    rw [List.take_succ_eq_append_getElem hkl]
    simp only [setB, List.mem_append, List.mem_singleton]
    by_cases h1 : (i : Int) ∈ xs.take k <;> by_cases h2 : (i : Int) = xs[k] <;> simp [h1, h2]
   refine condT (by simp [hkl] <;> omega) ?_
   refine awp_skip ?_
   show awp _ _ _ _
   refine awp_seq ?_
   refine awp_block ?_
   refine rgS fun K hK => ?_
   simp (disch := omega) [hkl]
   (repeat' first | apply hK | apply And.intro) <;> try first | omega | rfl | (simp <;> omega)
   by_cases h1 : 0 ≤ xs[k]
   ·by_cases h2 : xs[k] < (n : Int)
    ·obtain ⟨z, hz⟩ : ∃ z : Nat, xs[k] = (z : Int) := ⟨xs[k].toNat, by omega⟩
     have hzn : z < n := by omega
     rw [hz] at h1 h2
     have d1 : decide ((z : Int) ≥ 0) = true := by simp
     have d2 : decide ((z : Int) < n) = true := by simpa using hzn
     refine rgS fun K hK => ?_
     simp (disch := omega) [hz, d1, d2]
     and_intros <;> try first | apply hK | omega | rfl | simp <;> omega
     refine condT (by simp <;> omega) ?_
     refine rgL fun K hK => ?_
     simp (disch := omega) [hzn]
     and_intros <;> try first | apply hK | omega | rfl | simp <;> omega
     show awp _ _ _ _
     refine rgL fun K hK => ?_
     simp (disch := omega)
     (repeat' first | apply hK | apply And.intro) <;> try first | omega | rfl | (simp <;> omega)
     refine ⟨k + 1, by omega, by omega, ?_⟩
     refine wk_list [(0, some 0)] rfl ?_ ?_ ?_ ?_
     all_goals try simp [boolT, tab_set]
     refine tab_congr (fun i hi => ?_)
     rw [hst i, hz]
     by_cases e : i = z
     ·simp [e]
     ·simp [e, show ¬ (i : Int) = (z : Int) by omega]
    ·have d1 : decide (xs[k] ≥ 0) = true := by simpa using h1
     have d2 : decide (xs[k] < (n : Int)) = false := by simpa using h2
     refine rgS fun K hK => ?_
     simp (disch := omega) [d1, d2]
     and_intros <;> try first | apply hK | omega | rfl | simp <;> omega
     refine condF (by simp <;> omega) ?_
     refine awp_skip ?_
     show awp _ _ _ _
     refine rgL fun K hK => ?_
     simp (disch := omega)
     (repeat' first | apply hK | apply And.intro) <;> try first | omega | rfl | (simp <;> omega)
     refine ⟨k + 1, by omega, by omega, ?_⟩
     refine wk_list [(0, some 0)] rfl ?_ ?_ ?_ ?_
     all_goals try simp [boolT]
     refine tab_congr (fun i hi => ?_)
     rw [hst i]
     simp [show ¬ (i : Int) = xs[k] by omega]
   ·have d1 : decide (xs[k] ≥ 0) = false := by simpa using h1
    refine rgS fun K hK => ?_
    simp (disch := omega) [d1]
    and_intros <;> try first | apply hK | omega | rfl | simp <;> omega
    refine condF (by simp <;> omega) ?_
    refine awp_skip ?_
    show awp _ _ _ _
    refine rgL fun K hK => ?_
    simp (disch := omega)
    (repeat' first | apply hK | apply And.intro) <;> try first | omega | rfl | (simp <;> omega)
    refine ⟨k + 1, by omega, by omega, ?_⟩
    refine wk_list [(0, some 0)] rfl ?_ ?_ ?_ ?_
    all_goals try simp [boolT]
    refine tab_congr (fun i hi => ?_)
    rw [hst i]
    simp [show ¬ (i : Int) = xs[k] by omega]
  ·have hke : k = xs.length := by omega
   refine condF (by simp [hkl] <;> omega) ?_
   refine awp_exit ?_
   show awp _ _ _ _
   refine rgS fun K hK => ?_
   simp (disch := omega)
   and_intros <;> try first | apply hK | omega | rfl | simp <;> omega
   refine awp_ret ?_
   subst hke
   refine ⟨⟨.inr rfl, _, [(0, some 0)], (by first | rfl | (simp [tpO, boolT]; rfl)), ?_, ?_, ?_, ?_⟩, ?_⟩
   all_goals try simp [tpO, boolT]
theorem members_fn (n : Nat) (g : Nat → Bool) (hn : n ≤ 1000000) : FnA Tryz.prog 118 [.t 0 (.sl 1 (boolT n g))] (.t 2 (.sl 1 (natsT ((List.range n).filter g)))) := by
 refine fn_intro Tryz.func118 rfl (by simp [Tryz.f118]) ?_
 rw [show Tryz.f118.ntmps = 20 from rfl, show Tryz.f118.results = #[.tmp 2] from rfl]
 refine rgS fun K hK => ?_
 simp (disch := omega)
 and_intros <;> try first | apply hK | omega | rfl | simp <;> omega
 refine rgS fun K hK => ?_
 simp (disch := omega)
 and_intros <;> try first | apply hK | omega | rfl | simp <;> omega
 refine awp_seq ?_
 refine rgS fun K hK => ?_
 simp (disch := omega)
 and_intros <;> try first | apply hK | omega | rfl | simp <;> omega
 refine awp_block ?_
 refine awp_loop (fun k : Nat => mkS [(3, .own 0 ((List.range k).filter g).length), (6, .t 0 (.sl 1 (boolT n g))), (7, .t 2 (.int .i64 n)), (8, .t 2 (.int .i64 k))] [(0, .row 3 1 2 (natsT ((List.range k).filter g)))] 1 20 [.any]) (fun k => k ≤ n) (fun k => n - k) ?_ ?_
 ·refine ⟨0, by omega, ?_⟩
  refine wk_list [(0, none)] rfl ?_ ?_ ?_ ?_
  all_goals try simp [natsT]
 ·intro k hk
  have hfl : ((List.range k).filter g).length ≤ k := Nat.le_trans (List.length_filter_le _ _) (by simp)
  refine rgS fun K hK => ?_
  simp (disch := omega)
  and_intros <;> try first | apply hK | omega | rfl | simp <;> omega
  refine awp_seq ?_
  by_cases hkn : k < n
  ·have hg := boolT_get (g := g) hkn
   refine condT (by simp [hkn] <;> omega) ?_
   refine awp_skip ?_
   show awp _ _ _ _
   refine awp_seq ?_
   refine awp_block ?_
   refine rgS fun K hK => ?_
   simp (disch := omega) [boolT, hkn]
   and_intros <;> try first | apply hK | omega | rfl | simp <;> omega
   refine rgS fun K hK => ?_
   simp (disch := omega)
   (repeat' first | apply hK | apply And.intro) <;> try first | omega | rfl | (simp <;> omega)
   cases hgk : g k with
   | true =>
    refine condT (by simp [hgk] <;> omega) ?_
    refine rgL fun K hK => ?_
    simp (disch := omega) [natsT]
    and_intros <;> try first | apply hK | omega | rfl | simp <;> omega
    show awp _ _ _ _
    refine rgL fun K hK => ?_
    simp (disch := omega)
    (repeat' first | apply hK | apply And.intro) <;> try first | omega | rfl | (simp <;> omega)
    refine ⟨k + 1, by omega, by omega, ?_⟩
    refine wk_list [(0, some 0)] rfl ?_ ?_ ?_ ?_
    all_goals try simp [natsT, boolT, List.range_succ, List.filter_append, hgk]
   | false =>
    refine condF (by simp [hgk] <;> omega) ?_
    refine awp_skip ?_
    show awp _ _ _ _
    refine rgL fun K hK => ?_
    simp (disch := omega)
    (repeat' first | apply hK | apply And.intro) <;> try first | omega | rfl | (simp <;> omega)
    refine ⟨k + 1, by omega, by omega, ?_⟩
    refine wk_list [(0, some 0)] rfl ?_ ?_ ?_ ?_
    all_goals try simp [natsT, boolT, List.range_succ, List.filter_append, hgk]
  ·have hke : k = n := by omega
   refine condF (by simp [hkn] <;> omega) ?_
   refine awp_exit ?_
   show awp _ _ _ _
   refine rgS fun K hK => ?_
   simp (disch := omega)
   and_intros <;> try first | apply hK | omega | rfl | simp <;> omega
   refine awp_ret ?_
   subst hke
   refine ⟨⟨.inr rfl, _, [], rfl, trivial, trivial, by simp [natsT, boolT], ?_⟩, by simp [natsT, boolT]⟩
   simp [natsT, boolT]
def cntF (g : Nat → Bool) : Nat → Nat
 | 0 => 0
 | k + 1 => cntF g k + if g k then 0 else 1
def setT (g : Nat → Bool) (z : Nat) : Nat → Bool := fun i => if i = z then true else g i
theorem cntF_set {g : Nat → Bool} {z : Nat} (hz : g z = false) : ∀ {n : Nat}, z < n → cntF (setT g z) n + 1 = cntF g n
 | 0, h => by omega
 | n + 1, h => by
  unfold cntF
  by_cases e : z = n
  ·subst e
   have : ∀ m, m ≤ z → cntF (setT g z) m = cntF g m := fun m => by
    induction m with
    | zero => intro _; rfl
    | succ m ih =>
     intro hm
     unfold cntF
     rw [ih (by omega)]
     simp [setT, show m ≠ z by omega]
   rw [this z (Nat.le_refl _)]
   simp [setT, hz]
  ·have := cntF_set hz (n := n) (by omega)
   simp only [setT, show n ≠ z by omega, if_false]
   cases g n <;> simp <;> omega
def GClo (n : Nat) (tb : List (List Int)) (g : Nat → Bool) : Prop := ∀ x y, x < n → y < n → g x = true → g y = true → g (stepR tb x y) = true
structure GeG (n : Nat) (tb : List (List Int)) (gens : List Int) (g : Nat → Bool) : Prop where
 has : ∀ i, i < n → (i : Int) ∈ gens → g i = true
 clo : GClo n tb g
 min : ∀ c : Nat → Bool, (∀ i, i < n → (i : Int) ∈ gens → c i = true) → GClo n tb c → ∀ i, i < n → g i = true → c i = true
theorem generated_fn {n : Nat} {tb : List (List Int)} (gens : List Int) (h : RtOK n n tb) (hn : n ≤ 100000) (hl : gens.length ≤ 1000000) : ∃ res, (∃ g, GeG n tb gens g ∧ res = .t 2 (.sl 1 (natsT ((List.range n).filter g)))) ∧ FnS Tryz.prog 100 [.t 0 (rows tb), .t 0 (ints gens)] [] res [] := by
 have htl := h.len
 refine fn_introE Tryz.func100 rfl (by simp [Tryz.f100]) ?_
 rw [show Tryz.f100.ntmps = 60 from rfl, show Tryz.f100.results = #[.tmp 4] from rfl]
 refine rgS fun K hK => ?_
 simp (disch := omega)
 and_intros <;> try first | apply hK | omega | rfl | simp <;> omega
 refine rgS fun K hK => ?_
 simp (disch := omega) [htl]
 (repeat' apply And.intro)
 all_goals (try omega)
 refine call_rule (caps := []) (set_fn gens n (by omega) hl) [] [4000000] 2 rfl rfl rfl rfl (by kernel_rfl) (by simp) ?_ trivial trivial rfl (by simp) ⟨.inl (by omega), trivial⟩ (by simp) ?_
 ·simp
 simp (disch := omega)
 and_intros <;> try first | apply hK | omega | rfl | simp <;> omega
 refine awp_seq ?_
 refine rgS fun K hK => ?_
 simp (disch := omega)
 and_intros <;> try first | apply hK | omega | rfl | simp <;> omega
 refine awp_block ?_
 refine awp_loop (fun y : (Nat → Bool) × Bool => mkS [(0, .t 0 (rows tb)), (5, .own 0 n), (6, .t 2 (.bool y.2))] [(0, .row 4 1 2 (boolT n y.1))] 1 60 [.any, .any]) (fun y => (∀ i, i < n → (i : Int) ∈ gens → y.1 i = true) ∧ (∀ c : Nat → Bool, (∀ i, i < n → (i : Int) ∈ gens → c i = true) → GClo n tb c → ∀ i, i < n → y.1 i = true → c i = true) ∧ (y.2 = false → GClo n tb y.1)) (fun y => 2 * cntF y.1 n + if y.2 then 1 else 0) ?_ ?_
 ·refine ⟨(setB gens, true), ⟨fun i hi hg => by simpa [setB] using hg, fun c hc _ i hi hg => hc i hi (by simpa [setB] using hg), fun h => by simp at h⟩, ?_⟩
  refine wk_list [(0, some 4000000)] rfl ?_ ?_ ?_ ?_
  all_goals try simp
 ·rintro ⟨g, ch⟩ ⟨hg1, hg2, hg3⟩
  simp only at hg1 hg2 hg3
  refine awp_seq ?_
  refine rgS fun K hK => ?_
  simp (disch := omega)
  (repeat' first | apply hK | apply And.intro) <;> try first | omega | rfl | (simp <;> omega)
  cases ch with
  | false =>
   refine condF (by simp <;> omega) ?_
   refine awp_exit ?_
   show awp _ _ _ _
   refine rgS fun K hK => ?_
   simp (disch := omega)
   (repeat' apply And.intro)
   all_goals (try omega)
   refine callO (members_fn n g (by omega)) rfl rfl rfl rfl (by kernel_rfl) (by simp) ?_ ?_
   ·simp
   simp (disch := omega)
   and_intros <;> try first | apply hK | omega | rfl | simp <;> omega
   refine awp_ret ?_
   refine ⟨_, ⟨g, ⟨hg1, hg3 rfl, hg2⟩, rfl⟩, ?_⟩
   refine ⟨⟨.inr rfl, _, [], rfl, trivial, trivial, by simp [natsT], ?_⟩, by simp [natsT]⟩
   simp [natsT]
  | true =>
   refine condT (by simp <;> omega) ?_
   refine awp_skip ?_
   show awp _ _ _ _
   refine awp_block ?_
   refine rgS fun K hK => ?_
   simp (disch := omega)
   and_intros <;> try first | apply hK | omega | rfl | simp <;> omega
   refine rgS fun K hK => ?_
   simp (disch := omega) [htl]
   and_intros <;> try first | apply hK | omega | rfl | simp <;> omega
   refine awp_block ?_
   refine awp_loop (fun y : Nat × (Nat → Bool) × Bool => mkS [(0, .t 0 (rows tb)), (5, .own 0 n), (6, .t 2 (.bool y.2.2)), (15, .t 2 (.int .i64 n)), (16, .t 2 (.int .i64 y.1))] [(0, .row 4 1 2 (boolT n y.2.1))] 1 60 [.any, .any]) (fun y => y.1 ≤ n ∧ (∀ i, g i = true → y.2.1 i = true) ∧ (∀ c : Nat → Bool, (∀ i, i < n → (i : Int) ∈ gens → c i = true) → GClo n tb c → ∀ i, i < n → y.2.1 i = true → c i = true) ∧ (if y.2.2 then cntF y.2.1 n < cntF g n else y.2.1 = g ∧ ∀ a b, a < y.1 → b < n → g a = true → g b = true → g (stepR tb a b) = true)) (fun y => n - y.1) ?_ ?_
   ·refine ⟨(0, g, false), ⟨by simp, fun i hi => hi, hg2, by simp⟩, ?_⟩
    refine wk_list [(0, some 0)] rfl ?_ ?_ ?_ ?_
    all_goals try simp
   ·rintro ⟨x, g1, ch⟩ ⟨hx, ha1, ha2, ha3⟩
    simp only at hx ha1 ha2 ha3
    refine rgS fun K hK => ?_
    simp (disch := omega)
    and_intros <;> try first | apply hK | omega | rfl | simp <;> omega
    refine awp_seq ?_
    by_cases hxn : x < n
    ·refine condT (by simp [hxn] <;> omega) ?_
     refine awp_skip ?_
     show awp _ _ _ _
     refine awp_seq ?_
     refine awp_block ?_
     refine rgS fun K hK => ?_
     simp (disch := omega)
     and_intros <;> try first | apply hK | omega | rfl | simp <;> omega
     refine rgS fun K hK => ?_
     simp (disch := omega) [htl]
     and_intros <;> try first | apply hK | omega | rfl | simp <;> omega
     refine awp_block ?_
     refine awp_loop (fun y : Nat × (Nat → Bool) × Bool => mkS [(0, .t 0 (rows tb)), (5, .own 0 n), (6, .t 2 (.bool y.2.2)), (7, .t 2 (.int .i64 x)), (15, .t 2 (.int .i64 n)), (16, .t 2 (.int .i64 x)), (20, .t 2 (.int .i64 n)), (21, .t 2 (.int .i64 y.1))] [(0, .row 4 1 2 (boolT n y.2.1))] 1 60 [.any, .any]) (fun y => y.1 ≤ n ∧ (∀ i, g i = true → y.2.1 i = true) ∧ (∀ c : Nat → Bool, (∀ i, i < n → (i : Int) ∈ gens → c i = true) → GClo n tb c → ∀ i, i < n → y.2.1 i = true → c i = true) ∧ (if y.2.2 then cntF y.2.1 n < cntF g n else y.2.1 = g ∧ ∀ a b, a < n → b < n → (a < x ∨ (a = x ∧ b < y.1)) → g a = true → g b = true → g (stepR tb a b) = true)) (fun y => n - y.1) ?_ ?_
     ·refine ⟨(0, g1, ch), ⟨by simp, ha1, ha2, ?_⟩, ?_⟩
      ·cases ch with
       | true => exact ha3
       | false =>
        simp only [Bool.false_eq_true, if_false] at ha3 ⊢
        exact ⟨ha3.1, fun a b _ hb hab => ha3.2 a b (by omega) hb⟩
      ·refine wk_list [(0, some 0)] rfl ?_ ?_ ?_ ?_
       all_goals try simp
     ·clear ha1 ha2 ha3
      rintro ⟨z, g2, ch⟩ ⟨hz, hb1, hb2, hb3⟩
      simp only at hz hb1 hb2 hb3
      refine rgS fun K hK => ?_
      simp (disch := omega)
      and_intros <;> try first | apply hK | omega | rfl | simp <;> omega
      refine awp_seq ?_
      by_cases hzn : z < n
      ·obtain ⟨s1, s2, s3, s4⟩ := h.step hxn hzn
       refine condT (by simp [hzn] <;> omega) ?_
       refine awp_skip ?_
       show awp _ _ _ _
       refine awp_seq ?_
       refine awp_block ?_
       refine rgS fun K hK => ?_
       simp (disch := omega)
       (repeat' first | apply hK | apply And.intro) <;> try first | omega | rfl | (simp <;> omega)
       have keep : (g2 x = true → g2 z = true → g2 (stepR tb x z) = true) → (if ch then cntF g2 n < cntF g n else g2 = g ∧ ∀ a b, a < n → b < n → (a < x ∨ (a = x ∧ b < z + 1)) → g a = true → g b = true → g (stepR tb a b) = true) := fun hk => by
        cases ch with
        | true => exact hb3
        | false =>
         simp only [Bool.false_eq_true, if_false] at hb3 ⊢
         refine ⟨hb3.1, fun a b ha hb hab => ?_⟩
         by_cases e : a = x ∧ b = z
         ·obtain ⟨rfl, rfl⟩ := e
          rw [hb3.1] at hk
          exact hk
         ·exact hb3.2 a b ha hb (by omega)
       cases e1 : g2 x with
       | false =>
        refine rgS fun K hK => ?_
        simp (disch := omega) [boolT, hxn, e1]
        and_intros <;> try first | apply hK | omega | rfl | simp <;> omega
        refine condF (by simp <;> omega) ?_
        refine awp_skip ?_
        show awp _ _ _ _
        refine rgL fun K hK => ?_
        simp (disch := omega)
        (repeat' first | apply hK | apply And.intro) <;> try first | omega | rfl | (simp <;> omega)
        refine ⟨(z + 1, g2, ch), ⟨by omega, hb1, hb2, keep (by rw [e1]; intro h; cases h)⟩, by simp; omega, ?_⟩
        refine wk_list [(0, some 0)] rfl ?_ ?_ ?_ ?_
        all_goals try simp [boolT]
       | true =>
        cases e2 : g2 z with
        | false =>
         refine rgS fun K hK => ?_
         simp (disch := omega) [boolT, hxn, hzn, e1, e2]
         and_intros <;> try first | apply hK | omega | rfl | simp <;> omega
         refine condF (by simp <;> omega) ?_
         refine awp_skip ?_
         show awp _ _ _ _
         refine rgL fun K hK => ?_
         simp (disch := omega)
         (repeat' first | apply hK | apply And.intro) <;> try first | omega | rfl | (simp <;> omega)
         refine ⟨(z + 1, g2, ch), ⟨by omega, hb1, hb2, keep (by rw [e2]; intro _ h; cases h)⟩, by simp; omega, ?_⟩
         refine wk_list [(0, some 0)] rfl ?_ ?_ ?_ ?_
         all_goals try simp [boolT]
        | true =>
         cases e3 : g2 (stepR tb x z) with
         | true =>
          refine rgS fun K hK => ?_
          simp (disch := omega) [boolT, hxn, hzn, e1, e2, s1, s2, s3, s4, e3]
          and_intros <;> try first | apply hK | omega | rfl | simp <;> omega
          refine condF (by simp <;> omega) ?_
          refine awp_skip ?_
          show awp _ _ _ _
          refine rgL fun K hK => ?_
          simp (disch := omega)
          (repeat' first | apply hK | apply And.intro) <;> try first | omega | rfl | (simp <;> omega)
          refine ⟨(z + 1, g2, ch), ⟨by omega, hb1, hb2, keep (fun _ _ => e3)⟩, by simp; omega, ?_⟩
          refine wk_list [(0, some 0)] rfl ?_ ?_ ?_ ?_
          all_goals try simp [boolT]
         | false =>
          refine rgS fun K hK => ?_
          simp (disch := omega) [boolT, hxn, hzn, e1, e2, s1, s2, s3, s4, e3]
          and_intros <;> try first | apply hK | omega | rfl | simp <;> omega
          refine condT (by simp <;> omega) ?_
          refine rgS fun K hK => ?_
          simp (disch := omega) [boolT, s1, s2, s3, s4]
          and_intros <;> try first | apply hK | omega | rfl | simp <;> omega
          refine rgL fun K hK => ?_
          simp (disch := omega)
          and_intros <;> try first | apply hK | omega | rfl | simp <;> omega
          show awp _ _ _ _
          refine rgL fun K hK => ?_
          simp (disch := omega)
          (repeat' first | apply hK | apply And.intro) <;> try first | omega | rfl | (simp <;> omega)
          have hcs := cntF_set e3 s1
          refine ⟨(z + 1, setT g2 (stepR tb x z), true), ⟨by omega, fun i hi => ?_, fun c hc1 hc2 i hi hgi => ?_, ?_⟩, by simp; omega, ?_⟩
          ·simp only [setT]; split
           ·rfl
           ·exact hb1 i hi
          ·simp only [setT] at hgi
           by_cases e : i = stepR tb x z
           ·rw [e]; exact hc2 x z hxn hzn (hb2 c hc1 hc2 x hxn e1) (hb2 c hc1 hc2 z hzn e2)
           ·rw [if_neg e] at hgi; exact hb2 c hc1 hc2 i hi hgi
          ·simp only [if_true]
           cases ch with
           | true => simp only [if_true] at hb3; omega
           | false =>
            simp only [Bool.false_eq_true, if_false] at hb3
            rw [hb3.1] at hcs ⊢
            omega
          ·refine wk_list [(0, some 0)] rfl ?_ ?_ ?_ ?_
           all_goals try simp [boolT, tab_set, setT]
           refine tab_congr (fun i hi => ?_)
           by_cases e : i = stepR tb x z <;> simp [e]
      ·have hze : z = n := by omega
       refine condF (by simp [hzn] <;> omega) ?_
       refine awp_exit ?_
       show awp _ _ _ _
       refine rgL fun K hK => ?_
       simp (disch := omega)
       (repeat' first | apply hK | apply And.intro) <;> try first | omega | rfl | (simp <;> omega)
       refine ⟨(x + 1, g2, ch), ⟨by omega, hb1, hb2, ?_⟩, by simp; omega, ?_⟩
       ·cases ch with
        | true => exact hb3
        | false =>
         simp only [Bool.false_eq_true, if_false] at hb3 ⊢
         exact ⟨hb3.1, fun a b ha hb => hb3.2 a b (by omega) hb (by omega)⟩
       ·refine wk_list [(0, some 0)] rfl ?_ ?_ ?_ ?_
        all_goals try simp [boolT]
    ·have hxe : x = n := by omega
     refine condF (by simp [hxn] <;> omega) ?_
     refine awp_exit ?_
     refine ⟨(g1, ch), ⟨fun i hi hm => ha1 i (hg1 i hi hm), ha2, fun hch => ?_⟩, ?_, ?_⟩
     ·subst hch
      simp only [Bool.false_eq_true, if_false] at ha3
      rw [ha3.1]
      exact fun a b ha hb => ha3.2 a b (by omega) hb
     ·cases ch with
      | true => simp only [if_true] at ha3 ⊢; omega
      | false =>
       simp only [Bool.false_eq_true, if_false] at ha3 ⊢
       rw [ha3.1]
       simp
     ·refine wk_list [(0, some 0)] rfl ?_ ?_ ?_ ?_
      all_goals try simp [boolT]
end Go.Proofs.YtghnmmfkckneaaaGreat.M
