/-
  Walk in my logic: Left (monomial), of valid automata.
-/
import Derived.Test.YtnffigeofdagfaaDoorZrbk
import Derived.Test.YtnffigeofdagfaaDoorZrbt
namespace Go.Proofs.YtnffigeofdagfaaDoor.M
open Go.RowKit
set_option linter.unusedVariables false
attribute [local simp] KL_ap KD_ap awpL_nil awpL_cons awpD_nil awpD_cons awpOp awpOpD wrE gd aop aBuiltin aNil aMin ASt.eval AV.ofV dstOk ASt.app Eff.heap dels upd_b aLoad aStore aField aFieldV aIndexAddr aIndex aSlice aSliceO aLen aBin iB sB aUn aConv aAlloc aBox aBuild afill avCells AV.leaf setR aBuildSlice frz frzL isOwn vecOf tsOf aMake srcOf aAppend aMkMap aMapUpd aLookup oint cut putL AObj.cnt mkS envOf_nil envOf_cons heapOf_nil heapOf_cons argS Nat.blt_eq callS outV outVs outO heap2 addL delL List.getElem?_cons_zero okO inPs inP ndL wkE wkP wkPs wkH wkO keysNd unm mpOf_nil mpOf_cons mkF famM_at famM_lt famU famH_at famH_lt ovr_at ovr_lt ghA ghA1 inOs inO resV idxF
set_option linter.unusedSimpArgs false

def turnM (m : Mo) : Mo := (m.1.reverse, m.2.reverse)
def leftR (r : List Mo × Int) : List Mo × Int := (r.1.map turnM, r.2)
def XR (r : List Nat) (k : Nat) : Int := ((r.getD k 0 : Nat) : Int)
theorem niT_row (r : List Nat) : niT r = rowX r.length (XR r) := by
 apply List.ext_getElem?
 intro k
 by_cases h : k < r.length
 ·rw [rowX_at _ h]
  simp [niT, nI, h, XR]
 ·rw [List.getElem?_eq_none (by simp; omega), List.getElem?_eq_none (by simp; omega)]
theorem niT_rev (r : List Nat) : niT r.reverse = rowX r.length fun k => XR r (r.length - 1 - k) := by
 rw [niT_row, List.length_reverse]
 unfold rowX
 refine tab_congr (fun k hk => ?_)
 unfold XR
 show T.int .i64 ((r.reverse.getD k 0 : Nat) : Int) = T.int .i64 ((r.getD (r.length - 1 - k) 0 : Nat) : Int)
 rw [List.getD_eq_getElem?_getD, List.getD_eq_getElem?_getD, List.getElem?_reverse hk]
theorem sreverseL_fn (r : List Nat) (h : r.length ≤ 100000) : FnK Tryd.prog 52 [.own 0 r.length] [.row 3 1 1 (niT r)] (.tup []) [.row 3 1 1 (niT r.reverse)] [0] := by
 rw [niT_rev, niT_row]
 exact sreverse_fn r.length (XR r) h
theorem moR_turn {l : List Mo} {j : Nat} (h : j < l.length * 2) : moR (l.map turnM) j = (moR l j).reverse := by
 have h2 : j / 2 < l.length := by omega
 unfold moR
 rw [List.getD_eq_getElem?_getD, List.getD_eq_getElem?_getD, List.getElem?_map, List.getElem?_eq_getElem h2]
 by_cases e : j % 2 = 0 <;> simp [e, turnM]
theorem mosC_turn (l : List Mo) : mosC (l.map turnM) = tab (l.length * 2) fun j => .sl 1 (niT (moR l j).reverse) := by
 rw [mosC_tab, List.length_map]
 exact tab_congr (fun j hj => by rw [moR_turn hj])
def famP (l : List Mo) (k j : Nat) : AObj := .row 3 1 2 (niT (if j < k then (moR l j).reverse else moR l j))
theorem vecV_at {l : List Mo} {b i : Nat} (h : i < l.length) : List.take 2 (List.drop (i * 2) (vecV b l)) = [AV.own (b + i * 2) (moR l (i * 2)).length, AV.own (b + (i * 2 + 1)) (moR l (i * 2 + 1)).length] := by
 apply List.ext_getElem?
 intro k
 rw [List.getElem?_take]
 by_cases hk : k < 2
 ·rw [if_pos hk, List.getElem?_drop, vecV, tab_get _ (by omega)]
  rcases (by omega : k = 0 ∨ k = 1) with rfl | rfl <;> rfl
 ·rw [if_neg hk, List.getElem?_eq_none (by simp; omega)]
theorem poF1_0 {a B n : Nat} : (poF [a] B n)[0]?.getD 0 = a := rfl
def Shrt (l : List Mo) : Prop := ∀ j, j < l.length * 2 → (moR l j).length ≤ 100000
set_option maxRecDepth 100000 in
set_option maxHeartbeats 16000000 in
theorem left0_fn {L n s : Nat} {bs : List Bool} {nxt : List (List Int)} (h : DfL L n s bs nxt) (hL : 1 ≤ L) (hL2 : L ≤ 6) (hn : n ≤ 9) (hsh : ∀ m b nx l, rightP L m b nx = (l, 0) → Shrt l) : ∃ res, (∃ m b1 nx m2 b2 nx2, MiX L n s bs nxt m b1 nx ∧ RvX L m b1 nx m2 b2 nx2 ∧ (res = monR (leftR (rightP L m2 b2 nx2)) ∨ ∃ e, rightP L m2 b2 nx2 = ([], e) ∧ res = monE e)) ∧ FnS Tryd.prog 20 [dfT 0 L s bs nxt] [] res [] := by
 obtain ⟨_, ⟨m, b1, nx, m2, b2, nx2, hX, hR, rfl⟩, hrev⟩ := lreverse_fn h hL hL2 hn
 have hD2 := hR.1.df
 obtain ⟨res, H', ⟨m3, b3, nx3, hX3, hr⟩, hright⟩ := right0_fn hD2 hL hL2 hR.2.1
 obtain ⟨rfl, rfl, rfl⟩ := hX3.mn.eq (by omega) hR.1 hX3.lang
 refine fn_introE Tryd.func20 rfl (by simp [Tryd.f20]) ?_
 rw [show Tryd.f20.ntmps = 39 from rfl, show Tryd.f20.results = #[.tmp 2, .tmp 3] from rfl]
 refine awp_seqR fun K hK => ?_
 simp (disch := omega) [ints, rows, scal, wr64, wr8, dfT, bools]
 (repeat' first | apply hK | apply And.intro) <;> try first | (show okH _ _ _ = true; kernel_rfl) | omega | rfl | (simp <;> omega)
 refine awp_seqR fun K hK => ?_
 simp (disch := omega) [ints, rows, scal, wr64, wr8]
 (repeat' apply And.intro)
 all_goals (try omega)
 refine call_rule (caps := []) (hrev) [] [] 2 rfl rfl rfl rfl (by kernel_rfl) (by simp) ?_ trivial trivial rfl trivial trivial (by simp) ?_
 ·simp [scal, rows, ints, dfT, bools]
 simp (disch := omega) [ints, rows, scal, wr64, wr8, dfT, bools]
 (repeat' first | apply hK | apply And.intro) <;> try first | (show okH _ _ _ = true; kernel_rfl) | omega | rfl | (simp <;> omega)
 refine awp_seq ?_
 refine awp_seqR fun K hK => ?_
 simp (disch := omega) [ints, rows, scal, wr64, wr8]
 (repeat' first | apply hK | apply And.intro) <;> try first | (show okH _ _ _ = true; kernel_rfl) | omega | rfl | (simp <;> omega)
 refine awp_cond (b := false) (p := 2) (by simp [scal] <;> omega) ?_
 refine awp_skip ?_
 show awp _ _ _ _
 rcases hr with ⟨l, e1, hl400, rfl, rfl⟩ | ⟨e, he0, e1, rfl, rfl⟩
 ·have hs := hsh _ _ _ _ e1
  refine awp_seqR fun K hK => ?_
  simp (disch := omega) [ints, rows, scal, wr64, wr8]
  (repeat' apply And.intro)
  all_goals (try omega)
  refine call_ruleF (caps := []) (hright) [] [14000000] 14000010 2 rfl rfl rfl rfl (by kernel_rfl) (by simp) ?_ ?_ (by simp) rfl (by simp) ⟨.inl ⟨by omega, by omega⟩, trivial⟩ (by omega) (by intro k hk; simp at hk; omega) (by simp [dfT, bools]) (fun j hj => rfl) ?_
  ·simp +contextual (disch := omega) [beq_gt, beq_lt, eq_lt, eq_gt, lt_t, List.getElem?_cons_succ, Option.getD_some, callF, ints, scal, tpO, wkPs_snoc, wkPs_tab, poF, scal, rows, ints, inPs_tabE, dfT, bools]
  ·trivial
  simp (disch := omega) [ints, rows, scal, wr64, wr8, callF]
  (repeat' first | apply hK | apply And.intro) <;> try first | (show okH _ _ _ = true; kernel_rfl) | omega | rfl | (simp <;> omega)
  refine awp_weak (σ' := mkF [(5, .t 2 (.int .i64 0)), (6, .own 1 (l.length * 2))] [(1, .vec 37 2 2 (vecV 100 l))] 100 (l.length * 2) (famP l 0) 2000 39 [.any]) ?_ ?_
  ·refine wk_fam [(1, some 14000000)] (fun j => 14000010 + j) rfl ?_ ?_ ?_ ?_ ?_ ?_
   all_goals try simp +contextual (disch := omega) [wkE, wkP, wkPs, wkH, wkO, keysNd, unm, mpOf_nil, mpOf_cons, dels, upd_b, mkS, mkF, envOf_nil, envOf_cons, heapOf_nil, heapOf_cons, famM_at, famM_lt, famU, famH_at, famH_lt, ovr_at, ovr_lt, beq_gt, beq_lt, eq_lt, eq_gt, lt_t, List.getElem?_cons_zero, List.getElem?_cons_succ, Option.getD_some, argS, callS, callF, heap2, addL, delL, outV, outVs, outO, ghA, ghA1, ints, scal, tpO, wkPs_snoc, wkPs_tab, vecV, famP, famW, callF, poF1_0, outVs_famJ (show 1 = [14000000].length from rfl), dfT]
   all_goals (try omega)
  refine awp_seq ?_
  refine awp_seqR fun K hK => ?_
  simp (disch := omega) [ints, rows, scal, wr64, wr8]
  (repeat' first | apply hK | apply And.intro) <;> try first | (show okH _ _ _ = true; kernel_rfl) | omega | rfl | (simp <;> omega)
  refine awp_cond (b := false) (p := 2) (by simp [scal] <;> omega) ?_
  refine awp_skip ?_
  show awp _ _ _ _
  refine awp_seq ?_
  refine awp_seqR fun K hK => ?_
  simp (disch := omega) [ints, rows, scal, wr64, wr8]
  (repeat' first | apply hK | apply And.intro) <;> try first | (show okH _ _ _ = true; kernel_rfl) | omega | rfl | (simp <;> omega)
  refine awp_block ?_
  refine awp_loop (fun i : Nat => mkF [(6, .own 1 (l.length * 2)), (25, .own 1 (l.length * 2)), (26, .t 2 (.int .i64 l.length)), (27, .t 2 (.int .i64 i))] [(1, .vec 37 2 2 (vecV 100 l))] 100 (l.length * 2) (famP l (i * 2)) 2000 39 [.any]) (fun i => i ≤ l.length) (fun i => l.length - i) ?_ ?_
  ·refine ⟨0, by omega, ?_⟩
   refine wk_fam [(1, some 1)] (fun j => 100 + j) rfl ?_ ?_ ?_ ?_ ?_ ?_
   all_goals try simp +contextual (disch := omega) [beq_gt, beq_lt, eq_lt, eq_gt, lt_t, List.getElem?_cons_succ, Option.getD_some, callF, ints, scal, tpO, wkPs_snoc, wkPs_tab, vecV, famP]
   all_goals (try omega)
  intro i hi
  refine awp_seqR fun K hK => ?_
  simp (disch := omega) [ints, rows, scal, wr64, wr8]
  (repeat' first | apply hK | apply And.intro) <;> try first | (show okH _ _ _ = true; kernel_rfl) | omega | rfl | (simp <;> omega)
  refine awp_seq ?_
  by_cases hil : i < l.length
  ·have hat := vecV_at (b := 100) hil
   have hin : i * 2 + 2 ≤ l.length * 2 := by omega
   have hi2 : i * 2 < l.length * 2 := by omega
   have hi3 : i * 2 + 1 < l.length * 2 := by omega
   have hr1 := sreverseL_fn (moR l (i * 2)) (hs _ hi2)
   have hr2 := sreverseL_fn (moR l (i * 2 + 1)) (hs _ hi3)
   refine awp_cond (b := true) (p := 2) (by simp [scal, hil] <;> omega) ?_
   refine awp_skip ?_
   show awp _ _ _ _
   refine awp_seq ?_
   refine awp_block ?_
   refine awp_seqR fun K hK => ?_
   simp (disch := omega) [ints, rows, scal, wr64, wr8, hat, hin]
   (repeat' first | apply hK | apply And.intro) <;> try first | (show okH _ _ _ = true; kernel_rfl) | omega | rfl | (simp <;> omega)
   refine awp_weak (σ' := mkF [(6, .own 1 (l.length * 2)), (8, .ptr 2 0 2), (25, .own 1 (l.length * 2)), (26, .t 2 (.int .i64 l.length)), (27, .t 2 (.int .i64 i))] [(1, .vec 37 2 2 (vecV 100 l)), (2, .box 37 [.own (100 + i * 2) (moR l (i * 2)).length, .own (100 + (i * 2 + 1)) (moR l (i * 2 + 1)).length])] 100 (l.length * 2) (famP l (i * 2)) 2000 39 [.any]) ?_ ?_
   ·refine wk_fam [(1, some 1), (2, some 3002000)] (fun j => 100 + j) rfl ?_ ?_ ?_ ?_ ?_ ?_
    all_goals try simp +contextual (disch := omega) [beq_gt, beq_lt, eq_lt, eq_gt, lt_t, List.getElem?_cons_succ, Option.getD_some, callF, ints, scal, tpO, wkPs_snoc, wkPs_tab, vecV, famP, hi2, hi3]
    all_goals (try omega)
   refine awp_seqR fun K hK => ?_
   simp (disch := omega) [ints, rows, scal, wr64, wr8]
   (repeat' apply And.intro)
   all_goals (try omega)
   refine call_ruleK (caps := []) (hr1) [100 + i * 2] [100 + i * 2] 2 rfl rfl rfl rfl (by kernel_rfl) (by simp) ?_ ?_ (by simp) rfl (by simp) ⟨.inr (.inr ⟨rfl, by simp, by simp⟩), trivial⟩ (by simp [hi2, famP]) ?_
   ·simp [scal, rows, ints, hi2, famP]
   ·simp [scal, rows, ints, hi2, famP]
   simp (disch := omega) [ints, rows, scal, wr64, wr8]
   (repeat' first | apply hK | apply And.intro) <;> try first | (show okH _ _ _ = true; kernel_rfl) | omega | rfl | (simp <;> omega)
   refine awp_weak (σ' := mkF [(6, .own 1 (l.length * 2)), (8, .ptr 2 0 2), (25, .own 1 (l.length * 2)), (26, .t 2 (.int .i64 l.length)), (27, .t 2 (.int .i64 i))] [(1, .vec 37 2 2 (vecV 100 l)), (2, .box 37 [.own (100 + i * 2) (moR l (i * 2)).length, .own (100 + (i * 2 + 1)) (moR l (i * 2 + 1)).length])] 100 (l.length * 2) (famP l (i * 2 + 1)) 2000 39 [.any]) ?_ ?_
   ·refine wk_fam [(1, some 1), (2, some 2)] (fun j => 100 + j) rfl ?_ ?_ ?_ ?_ ?_ ?_
    all_goals try simp +contextual (disch := omega) [beq_gt, beq_lt, eq_lt, eq_gt, lt_t, List.getElem?_cons_succ, Option.getD_some, callF, ints, scal, tpO, wkPs_snoc, wkPs_tab, vecV, hi2, hi3]
    all_goals (try omega)
    intro j hj
    by_cases e : j = i * 2
    ·subst e
     simp [famP]
    ·rw [beq_ne (show 100 + j ≠ 100 + i * 2 by omega)]
     have e2 : (j < i * 2 + 1) = (j < i * 2) := by apply propext; omega
     simp [famP, e2]
   refine awp_R fun K hK => ?_
   simp (disch := omega) [ints, rows, scal, wr64, wr8]
   (repeat' apply And.intro)
   all_goals (try omega)
   refine call_ruleK (caps := []) (hr2) [100 + (i * 2 + 1)] [100 + (i * 2 + 1)] 2 rfl rfl rfl rfl (by kernel_rfl) (by simp) ?_ ?_ (by simp) rfl (by simp) ⟨.inr (.inr ⟨rfl, by simp, by simp⟩), trivial⟩ (by simp [hi3, famP]) ?_
   ·simp [scal, rows, ints, hi3, famP]
   ·simp [scal, rows, ints, hi3, famP]
   simp (disch := omega) [ints, rows, scal, wr64, wr8]
   (repeat' first | apply hK | apply And.intro) <;> try first | (show okH _ _ _ = true; kernel_rfl) | omega | rfl | (simp <;> omega)
   show awp _ _ _ _
   refine awp_R fun K hK => ?_
   simp (disch := omega) [ints, rows, scal, wr64, wr8]
   (repeat' first | apply hK | apply And.intro) <;> try first | (show okH _ _ _ = true; kernel_rfl) | omega | rfl | (simp <;> omega)
   refine ⟨i + 1, by omega, by omega, ?_⟩
   refine wk_fam [(1, some 1)] (fun j => 100 + j) rfl ?_ ?_ ?_ ?_ ?_ ?_
   all_goals try simp +contextual (disch := omega) [beq_gt, beq_lt, eq_lt, eq_gt, lt_t, List.getElem?_cons_succ, Option.getD_some, callF, ints, scal, tpO, wkPs_snoc, wkPs_tab, vecV]
   all_goals (try omega)
   intro j hj
   by_cases e : j = i * 2 + 1
   ·subst e
    have e2 : i * 2 + 1 < (i + 1) * 2 := by omega
    simp [famP, e2]
   ·rw [beq_ne (show 100 + j ≠ 100 + (i * 2 + 1) by omega)]
    have e2 : (j < (i + 1) * 2) = (j < i * 2 + 1) := by apply propext; omega
    simp [famP, e2]
  ·obtain rfl : i = l.length := by omega
   refine awp_cond (b := false) (p := 2) (by simp [scal] <;> omega) ?_
   refine awp_exit ?_
   show awp _ _ _ _
   refine awp_seqR fun K hK => ?_
   simp (disch := omega) [ints, rows, scal, wr64, wr8]
   (repeat' first | apply hK | apply And.intro) <;> try first | (show okH _ _ _ = true; kernel_rfl) | omega | rfl | (simp <;> omega)
   refine awp_ret ?_
   refine ⟨_, ⟨m, b1, nx, m3, b3, nx3, hX, hR, .inl rfl⟩, ?_⟩
   rw [e1]
   simp only [leftR]
   refine ⟨?_, by simp [dfT]⟩
   refine ⟨.inr rfl, _, [], (by first | (simp; rfl) | rfl), ?_, ?_, ?_, ?_⟩
   all_goals try simp +contextual (disch := omega) [beq_gt, beq_lt, eq_lt, eq_gt, lt_t, List.getElem?_cons_succ, Option.getD_some, callF, ints, scal, tpO, wkPs_snoc, wkPs_tab, wkT_tab, wk1, rows, bools, monR, mosC_turn, vecV, famP, dfT, wkT_tab, wk1]
 ·have heb : (e != 0) = true := bne_iff_ne.2 (by omega)
  have hen : ¬ e = 0 := by omega
  refine awp_seqR fun K hK => ?_
  simp (disch := omega) [ints, rows, scal, wr64, wr8]
  (repeat' apply And.intro)
  all_goals (try omega)
  refine call_rule (caps := []) (hright) [] [] 2 rfl rfl rfl rfl (by kernel_rfl) (by simp) ?_ trivial trivial rfl trivial trivial (by simp) ?_
  ·simp [scal, rows, ints, dfT, bools]
  simp (disch := omega) [ints, rows, scal, wr64, wr8, monE]
  (repeat' first | apply hK | apply And.intro) <;> try first | (show okH _ _ _ = true; kernel_rfl) | omega | rfl | (simp <;> omega)
  refine awp_seq ?_
  refine awp_seqR fun K hK => ?_
  simp (disch := omega) [ints, rows, scal, wr64, wr8, heb]
  (repeat' first | apply hK | apply And.intro) <;> try first | (show okH _ _ _ = true; kernel_rfl) | omega | rfl | (simp <;> omega)
  refine awp_cond (b := true) (p := 2) (by simp [scal, hen] <;> omega) ?_
  refine awp_seqR fun K hK => ?_
  simp (disch := omega) [ints, rows, scal, wr64, wr8]
  (repeat' first | apply hK | apply And.intro) <;> try first | (show okH _ _ _ = true; kernel_rfl) | omega | rfl | (simp <;> omega)
  refine awp_ret ?_
  refine ⟨_, ⟨m, b1, nx, m3, b3, nx3, hX, hR, .inr ⟨e, e1, rfl⟩⟩, ?_⟩
  refine ⟨⟨.inr rfl, _, [], rfl, trivial, trivial, by simp [dfT, monE], ?_⟩, by simp [dfT, monE]⟩
  simp [dfT, monE]
end Go.Proofs.YtnffigeofdagfaaDoor.M
