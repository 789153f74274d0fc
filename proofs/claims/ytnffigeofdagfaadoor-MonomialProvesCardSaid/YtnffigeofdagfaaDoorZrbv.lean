/-
  Walks in my logic: Left (semigroupref35), Same (semigroupref35) of equal lists; both Lefts agree.
  Walks in my logic: Letters (semigroupmade), Ordered (monomial) of valid automata; both Ordereds agree; the law MonomialSides.
-/
import Derived.Test.YtnffigeofdagfaaDoorZrbu
import Derived.Test.YtnffigeofdagfaaDoorZrbt
import Derived.Test.YtnffigeofdagfaaDoorZrao
import Derived.Test.YtnffigeofdagfaaDoorZrbi
import Derived.Test.YtnffigeofdagfaaDoorZrbk
import Derived.Test.YtnffigeofdagfaaDoorZral
import Derived.Test.YtnffigeofdagfaaDoorZrbe
import Derived.Test.YtnffigeofdagfaaDoorZran
namespace Go.Proofs.YtnffigeofdagfaaDoor.M
open Go.RowKit
set_option linter.unusedVariables false
attribute [local simp] KL_ap KD_ap awpL_nil awpL_cons awpD_nil awpD_cons awpOp awpOpD wrE gd aop aBuiltin aNil aMin ASt.eval AV.ofV dstOk ASt.app Eff.heap dels upd_b aLoad aStore aField aFieldV aIndexAddr aIndex aSlice aSliceO aLen aBin iB sB aUn aConv aAlloc aBox aBuild afill avCells AV.leaf setR aBuildSlice frz frzL isOwn vecOf tsOf aMake srcOf aAppend aMkMap aMapUpd aLookup oint cut putL AObj.cnt mkS envOf_nil envOf_cons heapOf_nil heapOf_cons argS Nat.blt_eq callS outV outVs outO heap2 addL delL List.getElem?_cons_zero wkE wkP wkPs wkH wkO keysNd unm mpOf_nil mpOf_cons ghA ghA1 okO inPs inP
set_option linter.unusedSimpArgs false

theorem pth_len (L : Nat) (bs : List Bool) (nx : List (List Int)) : ∀ (f q : Nat) (p : Mo), p ∈ pth L bs nx f q → p.1.length = p.2.length + 1
 | 0, q, p, h => by simp [pth] at h
 | f + 1, q, p, h => by
  simp only [pth, List.mem_append, List.mem_flatMap, List.mem_range] at h
  rcases h with h | ⟨x, hx, h⟩
  ·split at h
   ·simp only [List.mem_singleton] at h; subst h; simp
   ·simp at h
  ·split at h
   ·simp at h
   ·obtain ⟨r, hr, rfl⟩ := List.mem_map.1 h
    have := pth_len L bs nx f _ r hr
    simp [conM, this]
theorem rightP_fit {L m : Nat} {bs : List Bool} {nx : List (List Int)} {l : List Mo} (h : rightP L m bs nx = (l, 0)) : l.length ≤ 400 ∧ ∀ p ∈ l, p.1.length ≤ 61 ∧ p.2.length ≤ 60 := by
 by_cases hA : Acy L m nx
 ·by_cases hF : Fits 0 0 (pX L m bs nx 0)
  ·rw [rightP_ok hA hF] at h
   simp only [Prod.mk.injEq] at h
   obtain ⟨rfl, -⟩ := h
   refine ⟨by have := hF.1; omega, fun p hp => ?_⟩
   have h1 := hF.2 p hp
   have h2 := pth_len L bs nx _ _ p hp
   omega
  ·rw [rightP_lim hA hF] at h
   simp at h
 ·rw [rightP_cyc hA] at h
  simp at h
theorem shrt_of {L m : Nat} {bs : List Bool} {nx : List (List Int)} {l : List Mo} (h : rightP L m bs nx = (l, 0)) : Shrt l := fun j hj => by
 have h2 : j / 2 < l.length := by omega
 have := (rightP_fit h).2 l[j / 2] (by simp)
 unfold moR
 rw [List.getD_eq_getElem?_getD, List.getElem?_eq_getElem h2]
 by_cases e : j % 2 = 0
 ·rw [if_pos e]; simp only [Option.getD_some]; omega
 ·rw [if_neg e]; simp only [Option.getD_some]; omega
theorem mosC_two {l : List Mo} {i : Nat} (h : i < l.length) : List.take 2 (List.drop (i * 2) (mosC l)) = [ints (nI l[i].1), ints (nI l[i].2)] := by
 have hd : ∀ (l : List Mo) (k : Nat), (mosC l).drop (k * 2) = mosC (l.drop k) := fun l => by
  induction l with
  | nil => intro k; simp [mosC]
  | cons m l ih =>
   intro k
   cases k with
   | zero => simp
   | succ k =>
    have := ih k
    rw [show (k + 1) * 2 = k * 2 + 2 by omega]
    simpa [mosC] using this
 rw [hd, List.drop_eq_getElem_cons h]
 rfl
theorem mosC_in {l : List Mo} {k : Nat} (h : k < l.length) : k * 2 + 2 ≤ l.length * 2 := by omega
set_option maxRecDepth 100000 in
set_option maxHeartbeats 8000000 in
theorem rsame35_fn (l : List Mo) (h1 : l.length ≤ 400) (h2 : ∀ p ∈ l, p.1.length ≤ 61 ∧ p.2.length ≤ 61) : FnA Tryd.prog 24 [.t 0 (.sl 2 (mosC l)), .t 0 (.sl 2 (mosC l))] (.t 2 (.bool true)) := by
 refine fn_intro Tryd.func24 rfl (by simp [Tryd.f24]) ?_
 rw [show Tryd.f24.ntmps = 43 from rfl, show Tryd.f24.results = #[.tmp 4] from rfl]
 refine awp_seqR fun K hK => ?_
 simp (disch := omega) [ints, rows, scal, wr64, wr8]
 (repeat' first | apply hK | apply And.intro) <;> try first | (show okH _ _ _ = true; kernel_rfl) | omega | rfl | (simp <;> omega)
 refine awp_seq ?_
 refine awp_seqR fun K hK => ?_
 simp (disch := omega) [ints, rows, scal, wr64, wr8]
 (repeat' first | apply hK | apply And.intro) <;> try first | (show okH _ _ _ = true; kernel_rfl) | omega | rfl | (simp <;> omega)
 refine awp_cond (b := false) (p := 2) (by simp [scal] <;> omega) ?_
 refine awp_skip ?_
 show awp _ _ _ _
 refine awp_seq ?_
 refine awp_seqR fun K hK => ?_
 simp (disch := omega) [ints, rows, scal, wr64, wr8]
 (repeat' first | apply hK | apply And.intro) <;> try first | (show okH _ _ _ = true; kernel_rfl) | omega | rfl | (simp <;> omega)
 refine awp_block ?_
 refine awp_loop (fun k : Nat => mkS [(0, .t 0 (.sl 2 (mosC l))), (1, .t 0 (.sl 2 (mosC l))), (12, .t 2 (.int .i64 l.length)), (13, .t 2 (.int .i64 k))] [] 0 43 [.any, .any]) (fun k => k ≤ l.length) (fun k => l.length - k) ?_ ?_
 ·refine ⟨0, by omega, ?_⟩
  refine wk_list [] rfl ?_ ?_ ?_ ?_
  all_goals try simp [ints]
 intro k hk
 refine awp_seqR fun K hK => ?_
 simp (disch := omega) [ints, rows, scal, wr64, wr8]
 (repeat' first | apply hK | apply And.intro) <;> try first | (show okH _ _ _ = true; kernel_rfl) | omega | rfl | (simp <;> omega)
 refine awp_seq ?_
 by_cases hkl : k < l.length
 ·have hat := mosC_two hkl
  have hin := mosC_in hkl
  have hsp := h2 l[k] (by simp)
  have hs1 := same_fn (nI l[k].1) (nI l[k].1) (by simp; omega)
  have hs2 := same_fn (nI l[k].2) (nI l[k].2) (by simp; omega)
  refine awp_cond (b := true) (p := 2) (by simp [scal, hkl] <;> omega) ?_
  refine awp_skip ?_
  show awp _ _ _ _
  refine awp_seq ?_
  refine awp_block ?_
  refine awp_seqR fun K hK => ?_
  simp (disch := omega) [ints, rows, scal, wr64, wr8]
  (repeat' first | apply hK | apply And.intro) <;> try first | (show okH _ _ _ = true; kernel_rfl) | omega | rfl | (simp <;> omega)
  refine awp_seqD (by kernel_rfl) (fun K hK => ?_)
  simp (disch := omega) [ints, rows, scal, wr64, wr8, hat, hin]
  (repeat' apply And.intro)
  all_goals (try omega)
  refine call_ruleD (caps := []) (hs1) [] [] 2 rfl rfl rfl rfl (by kernel_rfl) (by simp) ?_ trivial trivial rfl trivial trivial (by simp) ?_
  ·simp [scal, rows, ints]
  simp (disch := omega) [ints, rows, scal, wr64, wr8, hat, hin]
  (repeat' apply And.intro)
  all_goals (try omega)
  refine call_ruleD (caps := []) (hs2) [] [] 2 (by simp [scal, rows, ints]) rfl rfl rfl (by kernel_rfl) (by simp) ?_ trivial trivial rfl trivial trivial (by simp) ?_
  ·simp [scal, rows, ints]
  simp (disch := omega) [ints, rows, scal, wr64, wr8]
  (repeat' first | apply hK | apply And.intro) <;> try first | (show chkD _ _ = true; kernel_rfl) | (show okH _ _ _ = true; kernel_rfl) | omega | rfl | (simp <;> omega)
  refine awp_cond (b := false) (p := 2) (by simp [scal] <;> omega) ?_
  refine awp_skip ?_
  show awp _ _ _ _
  refine awp_R fun K hK => ?_
  simp (disch := omega) [ints, rows, scal, wr64, wr8]
  (repeat' first | apply hK | apply And.intro) <;> try first | (show okH _ _ _ = true; kernel_rfl) | omega | rfl | (simp <;> omega)
  refine ⟨k + 1, by omega, by omega, ?_⟩
  refine wk_list [] rfl ?_ ?_ ?_ ?_
  all_goals try simp [ints]
 ·refine awp_cond (b := false) (p := 2) (by simp [scal, hkl] <;> omega) ?_
  refine awp_exit ?_
  show awp _ _ _ _
  refine awp_seqR fun K hK => ?_
  simp (disch := omega) [ints, rows, scal, wr64, wr8]
  (repeat' first | apply hK | apply And.intro) <;> try first | (show okH _ _ _ = true; kernel_rfl) | omega | rfl | (simp <;> omega)
  refine awp_ret ?_
  refine ⟨⟨.inr rfl, _, [], rfl, trivial, trivial, by simp, ?_⟩, by simp⟩
  simp

attribute [local simp] KL_ap KD_ap awpL_nil awpL_cons awpD_nil awpD_cons awpOp awpOpD wrE gd aop aBuiltin aNil aMin ASt.eval AV.ofV dstOk ASt.app Eff.heap dels upd_b aLoad aStore aField aFieldV aIndexAddr aIndex aSlice aSliceO aLen aBin iB sB aUn aConv aAlloc aBox aBuild afill avCells AV.leaf setR aBuildSlice frz frzL isOwn vecOf tsOf aMake srcOf aAppend aMkMap aMapUpd aLookup oint cut putL AObj.cnt mkS envOf_nil envOf_cons heapOf_nil heapOf_cons argS Nat.blt_eq callS outV outVs outO heap2 addL delL List.getElem?_cons_zero ndL okO inPs inP inOs inO wkE wkP wkPs wkH wkO idxF keysNd unm mpOf_nil mpOf_cons resV ghA ghA1
set_option linter.unusedSimpArgs false

set_option maxRecDepth 100000 in
set_option maxHeartbeats 4000000 in
theorem lettersT_fn (xs : List Int) (a : Nat) (ha : a ≤ xs.length) (hl : xs.length ≤ 80) : ∃ L b : Nat, (L = 1 ∨ L = 2) ∧ b ≤ xs.length ∧ FnS Tryd.prog 16 [.ptr 0 0 2] [tpO 1 xs a] (.t 2 (.int .i64 (L : Nat))) [tpO 1 xs b] := by
 obtain ⟨v, b, hv, hb, hN⟩ := next_fn xs a 8 ha hl (by omega)
 have hv := hv (by omega)
 obtain ⟨L, hL, hLv⟩ : ∃ L : Nat, (L = 1 ∨ L = 2) ∧ 2 - (v : Int).tdiv 7 = (L : Int) := by
  by_cases h : v = 7
  ·subst h; exact ⟨1, .inl rfl, by decide⟩
  ·refine ⟨2, .inr rfl, ?_⟩
   rw [Int.tdiv_eq_zero_of_lt (by omega) (by omega)]; rfl
 have hd : (v : Int).tdiv 7 = 2 - (L : Int) := by omega
 refine ⟨L, b, hL, hb, ?_⟩
 refine fn_intro Tryd.func16 rfl (by simp [Tryd.f16]) ?_
 rw [show Tryd.f16.ntmps = 7 from rfl, show Tryd.f16.results = #[.tmp 2] from rfl]
 refine awp_seqR fun K hK => ?_
 simp (disch := omega) [ints, rows, scal, wr64, wr8]
 (repeat' first | apply hK | apply And.intro) <;> try first | (show okH _ _ _ = true; kernel_rfl) | omega | rfl | (simp <;> omega)
 refine awp_seqR fun K hK => ?_
 simp (disch := omega) [ints, rows, scal, wr64, wr8]
 (repeat' apply And.intro)
 all_goals (try omega)
 refine call_rule (caps := []) (hN) [0] [0] 1 rfl rfl rfl rfl (by kernel_rfl) (by simp) ?_ ?_ (by simp) rfl (by simp) ⟨.inr ⟨rfl, 0, _, _, _, _, _, rfl, rfl, rfl, rfl, rfl⟩, trivial⟩ (by simp [tpO]) ?_
 ·simp [scal, rows, ints, tpO]
 ·simp [scal, rows, ints, tpO]
 simp (disch := omega) [ints, rows, scal, wr64, wr8, tpO, hd]
 (repeat' first | apply hK | apply And.intro) <;> try first | (show okH _ _ _ = true; kernel_rfl) | omega | rfl | (simp <;> omega)
 refine awp_ret ?_
 refine ⟨⟨.inr rfl, _, [(0, some 0)], (by first | rfl | (simp [ints, rows, scal, tpO]; rfl)), ?_, ?_, ?_, ?_⟩, ?_⟩
 all_goals try simp [ints, rows, scal, tpO]
 omega
theorem kAcy : Acy 2 2 [[1, 0], [1, 1]] := by
 have s1 : ∀ x, x < 2 → stepR [[1, 0], [1, 1]] 1 x = 1 := fun x hx => by
  rcases (by omega : x = 0 ∨ x = 1) with rfl | rfl <;> rfl
 have w1 : ∀ w : List Nat, (∀ a ∈ w, a < 2) → walkR [[1, 0], [1, 1]] 1 w = 1 := by
  intro w
  induction w with
  | nil => intro _; rfl
  | cons a w ih =>
   intro hw
   have h1 := s1 a (hw a (by simp))
   have h2 := ih (fun b hb => hw b (by simp [hb]))
   simp only [walkR, List.foldl_cons] at h2 ⊢
   rw [h1]
   exact h2
 intro q x w hq hx hw hne
 rcases (by omega : q = 0 ∨ q = 1) with rfl | rfl
 ·rcases (by omega : x = 0 ∨ x = 1) with rfl | rfl
  ·rw [show stepR [[1, 0], [1, 1]] 0 0 = 1 from rfl, w1 w hw]
   omega
  ·exact absurd rfl hne
 ·exact absurd (s1 x hx) hne
theorem kDf : DfL 2 2 0 [false, true] [[1, 0], [1, 1]] := ⟨by omega, by omega, rfl, rfl, fun r hr => by
 simp only [List.mem_cons, List.not_mem_nil, or_false] at hr
 rcases hr with rfl | rfl <;> refine ⟨rfl, fun v hv => ?_⟩ <;> simp at hv <;> omega⟩
theorem kRightP : rightP 2 2 [false, true] [[1, 0], [1, 1]] = ([([2, 3], [0])], 0) := by
 have e : pX 2 2 [false, true] [[1, 0], [1, 1]] 0 = [([2, 3], [0])] := by decide
 rw [rightP_ok kAcy (by rw [e]; exact ⟨by simp, fun p hp => by simp at hp; subst hp; simp⟩), e]
theorem rightM_fn : FnA Tryd.prog 18 [dfT 0 2 0 [false, true] [[1, 0], [1, 1]]] (.tup [.t 2 (.sl 2 [ints [2, 3], ints [0]]), .t 2 (.int .i64 0)]) := by
 obtain ⟨m, b2, nx, hX, h⟩ := right_fn kDf (by omega) (by omega) (by omega)
 obtain ⟨rfl, rfl, rfl⟩ := known_pin hX
 rw [kRightP] at h
 exact h
theorem rsame35M_fn : FnA Tryd.prog 24 [.t 0 (.sl 2 [ints [2, 3], ints [0]]), .t 0 (.sl 2 [ints [2, 3], ints [0]])] (.t 2 (.bool true)) :=
 rsame35_fn [([2, 3], [0])] (by simp) (fun p hp => by simp at hp; subst hp; simp)
set_option maxRecDepth 100000 in
set_option maxHeartbeats 8000000 in
theorem known35M_fn : FnA Tryd.prog 14 [] (.t 2 (.bool true)) := by
 refine fn_intro Tryd.func14 rfl (by simp [Tryd.f14]) ?_
 rw [show Tryd.f14.ntmps = 22 from rfl, show Tryd.f14.results = #[.tmp 0] from rfl]
 refine awp_seqR fun K hK => ?_
 simp (disch := omega) [ints, rows, scal, wr64, wr8]
 (repeat' first | apply hK | apply And.intro) <;> try first | (show okH _ _ _ = true; kernel_rfl) | omega | rfl | (simp <;> omega)
 refine awp_seqR2 5 fun K hK => ?_
 simp (disch := omega) [ints, rows, scal, wr64, wr8]
 (repeat' first | apply hK | apply And.intro) <;> try first | (show okH _ _ _ = true; kernel_rfl) | omega | rfl | (simp <;> omega)
 refine ⟨mkS [(8, .agg [.t 2 (.int .i64 2), .t 2 (.int .i64 0), .t 2 (bools [false, true]), .t 2 (rows [[1, 0], [1, 1]])])] [] 0 22 [], ?_, fun K hK => ?_⟩
 ·refine wk_list [] rfl ?_ ?_ ?_ ?_
  all_goals try simp [ints, rows, ints, bools, wkTK_cons, wkTK_nil, wk1, rangeK_2]
 simp (disch := omega) [ints, rows, scal, wr64, wr8]
 (repeat' apply And.intro)
 all_goals (try omega)
 refine call_rule (caps := []) (rightM_fn) [] [] 2 rfl rfl rfl rfl (by kernel_rfl) (by simp) ?_ trivial trivial rfl trivial trivial (by simp) ?_
 ·simp [scal, rows, ints, dfT, bools]
 simp (disch := omega) [ints, rows, scal, wr64, wr8]
 (repeat' first | apply hK | apply And.intro) <;> try first | (show okH _ _ _ = true; kernel_rfl) | omega | rfl | (simp <;> omega)
 refine awp_seqR2 8 fun K hK => ?_
 simp (disch := omega) [ints, rows, scal, wr64, wr8]
 (repeat' first | apply hK | apply And.intro) <;> try first | (show okH _ _ _ = true; kernel_rfl) | omega | rfl | (simp <;> omega)
 refine ⟨mkS [(14, .t 2 (.bool true)), (15, .t 2 (.sl 2 moK)), (19, .t 2 (.sl 2 moK))] [] 0 22 [], ?_, fun K hK => ?_⟩
 ·refine wk_list [] rfl ?_ ?_ ?_ ?_
  all_goals try simp [ints, moK, ints, wkTK_cons, wkTK_nil, wk1, rangeK_2]
 simp (disch := omega) [ints, rows, scal, wr64, wr8]
 (repeat' apply And.intro)
 all_goals (try omega)
 refine call_rule (caps := []) (rsame35M_fn) [] [] 2 (by simp [scal, rows, ints, moK]) rfl rfl rfl (by kernel_rfl) (by simp) ?_ trivial trivial rfl trivial trivial (by simp) ?_
 ·simp [scal, rows, ints, moK]
 simp (disch := omega) [ints, rows, scal, wr64, wr8]
 (repeat' first | apply hK | apply And.intro) <;> try first | (show okH _ _ _ = true; kernel_rfl) | omega | rfl | (simp <;> omega)
 refine awp_ret ?_
 refine ⟨⟨.inr rfl, _, [], rfl, trivial, trivial, by simp, ?_⟩, by simp⟩
 simp
end Go.Proofs.YtnffigeofdagfaaDoor.M
