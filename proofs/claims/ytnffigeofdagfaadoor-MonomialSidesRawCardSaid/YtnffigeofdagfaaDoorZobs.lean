/-
  Walks in my logic: Turn, Left (semigroupref35), of valid automata.
  Walks in my logic: Left (semigroupref35), Same (semigroupref35) of equal lists; both Lefts agree.
  Walks in my logic: Letters (semigroupmade), Ordered (monomial) of valid automata; both Ordereds agree; the law MonomialSides.
  Walks in my logic: the law MonomialSides.
-/
import Derived.Test.YtnffigeofdagfaaDoorZobr
import Derived.Test.YtnffigeofdagfaaDoorZobq
import Derived.Test.YtnffigeofdagfaaDoorZobh
import Derived.Test.YtnffigeofdagfaaDoorZoam
import Derived.Test.YtnffigeofdagfaaDoorZoay
import Derived.Test.YtnffigeofdagfaaDoorZobf
import Derived.Test.YtnffigeofdagfaaDoorZoao
namespace Go.Proofs.YtnffigeofdagfaaDoor.M
open Go.RowKit
set_option linter.unusedVariables false
attribute [local simp] KL_ap KD_ap awpL_nil awpL_cons awpD_nil awpD_cons awpOp awpOpD wrE gd aop aBuiltin aNil aMin ASt.eval AV.ofV dstOk ASt.app Eff.heap dels upd_b aLoad aStore aField aFieldV aIndexAddr aIndex aSlice aSliceO aLen aBin iB sB aUn aConv aAlloc aBox aBuild afill avCells AV.leaf setR aBuildSlice frz frzL isOwn vecOf tsOf aMake srcOf aAppend aMkMap aMapUpd aLookup oint cut putL AObj.cnt mkS envOf_nil envOf_cons heapOf_nil heapOf_cons argS Nat.blt_eq callS outV outVs outO heap2 addL delL List.getElem?_cons_zero wkE wkP wkPs wkH wkO keysNd unm mpOf_nil mpOf_cons ghA ghA1 resV
set_option linter.unusedSimpArgs false

def dI (k : Nat) : Int := (k : Int) - 1
def rvF (S : List Nat) (k : Nat) : List Nat := (S.drop k).reverse
theorem rvF_len {S : List Nat} {k : Nat} : (rvF S k).length = S.length - k := by simp [rvF]
theorem rvF_all (S : List Nat) : rvF S S.length = [] := by simp [rvF]
theorem rvF_zero (S : List Nat) : rvF S 0 = S.reverse := by simp [rvF]
theorem rvF_succ {S : List Nat} {k : Nat} (h : k < S.length) : rvF S k = rvF S (k + 1) ++ [S[k]] := by
 unfold rvF
 rw [List.drop_eq_getElem_cons h, List.reverse_cons]
set_option maxRecDepth 100000 in
set_option maxHeartbeats 8000000 in
theorem turn_fn (mo : Mo) (h1 : mo.1.length ≤ 100000) (h2 : mo.2.length ≤ 100000) : FnA Tryd.prog 54 [moV 0 mo] (moV 2 (turnM mo)) := by
 obtain ⟨S, U⟩ := mo
 simp only at h1 h2
 refine fn_intro Tryd.func54 rfl (by simp [Tryd.f54]) ?_
 rw [show Tryd.f54.ntmps = 43 from rfl, show Tryd.f54.results = #[.cell 2 37] from rfl]
 have d1 : dI S.length = (S.length : Int) - 1 := rfl
 have d2 : dI U.length = (U.length : Int) - 1 := rfl
 refine awp_seqR fun K hK => ?_
 simp (disch := omega) [ints, rows, scal, wr64, wr8, moV]
 (repeat' first | apply hK | apply And.intro) <;> try first | (show okH _ _ _ = true; kernel_rfl) | omega | rfl | (simp <;> omega)
 refine awp_seqR fun K hK => ?_
 simp (disch := omega) [ints, rows, scal, wr64, wr8]
 (repeat' first | apply hK | apply And.intro) <;> try first | (show okH _ _ _ = true; kernel_rfl) | omega | rfl | (simp <;> omega)
 refine awp_seq ?_
 refine awp_seqR fun K hK => ?_
 simp (disch := omega) [ints, rows, scal, wr64, wr8]
 (repeat' first | apply hK | apply And.intro) <;> try first | (show okH _ _ _ = true; kernel_rfl) | omega | rfl | (simp <;> omega)
 refine awp_block ?_
 refine awp_loop (fun k : Nat => mkS [(1, .ptr 0 0 2), (2, .ptr 1 0 2), (3, .ptr 2 0 2), (4, .t 2 (.int .i64 (dI k)))] [(0, .box 37 [.t 0 (ints (nI S)), .t 0 (ints (nI U))]), (1, .box 37 [.any, .any]), (2, .box 37 [.own 3 (S.length - k), .t 2 (.sl 0 [])]), (3, .row 3 1 2 (niT (rvF S k)))] 4 43 [.any]) (fun k => k ≤ S.length) (fun k => k) ?_ ?_
 ·refine ⟨S.length, by omega, ?_⟩
  refine wk_list [(0, some 0), (1, some 1000000), (2, some 2000000), (3, none)] rfl ?_ ?_ ?_ ?_
  all_goals try simp [ints, rvF_all, niT, nI, moV, d1]
 intro k hk
 refine awp_seq ?_
 by_cases hk0 : k = 0
 ·have hd : dI k = -1 := by rw [hk0]; rfl
  subst hk0
  refine awp_seqR fun K hK => ?_
  simp (disch := omega) [ints, rows, scal, wr64, wr8, hd]
  (repeat' first | apply hK | apply And.intro) <;> try first | (show okH _ _ _ = true; kernel_rfl) | omega | rfl | (simp <;> omega)
  refine awp_cond (b := false) (p := 2) (by simp [scal, hd] <;> omega) ?_
  refine awp_exit ?_
  show awp _ _ _ _
  refine awp_weak (σ' := mkS [(1, .ptr 0 0 2), (2, .ptr 1 0 2), (3, .ptr 2 0 2)] [(0, .box 37 [.t 0 (ints (nI S)), .t 0 (ints (nI U))]), (1, .box 37 [.any, .any]), (2, .box 37 [.t 2 (ints (nI S.reverse)), .t 2 (.sl 0 [])])] 3 43 [.any]) ?_ ?_
  ·refine wk_list [(0, some 0), (1, some 1), (2, some 2)] rfl ?_ ?_ ?_ ?_
   all_goals try simp [ints, rvF_zero, niT, nI, rvF_len]
  refine awp_seq ?_
  refine awp_seqR fun K hK => ?_
  simp (disch := omega) [ints, rows, scal, wr64, wr8]
  (repeat' first | apply hK | apply And.intro) <;> try first | (show okH _ _ _ = true; kernel_rfl) | omega | rfl | (simp <;> omega)
  refine awp_block ?_
  refine awp_loop (fun k : Nat => mkS [(1, .ptr 0 0 2), (2, .ptr 1 0 2), (3, .ptr 2 0 2), (5, .t 2 (.int .i64 (dI k)))] [(0, .box 37 [.t 0 (ints (nI S)), .t 0 (ints (nI U))]), (1, .box 37 [.any, .any]), (2, .box 37 [.t 2 (ints (nI S.reverse)), .own 3 (U.length - k)]), (3, .row 3 1 2 (niT (rvF U k)))] 4 43 [.any]) (fun k => k ≤ U.length) (fun k => k) ?_ ?_
  ·refine ⟨U.length, by omega, ?_⟩
   refine wk_list [(0, some 0), (1, some 1), (2, some 2), (3, none)] rfl ?_ ?_ ?_ ?_
   all_goals try simp [ints, rvF_all, niT, nI, d2]
  intro k hk
  refine awp_seq ?_
  by_cases hk0 : k = 0
  ·have hd : dI k = -1 := by rw [hk0]; rfl
   subst hk0
   refine awp_seqR fun K hK => ?_
   simp (disch := omega) [ints, rows, scal, wr64, wr8, hd]
   (repeat' first | apply hK | apply And.intro) <;> try first | (show okH _ _ _ = true; kernel_rfl) | omega | rfl | (simp <;> omega)
   refine awp_cond (b := false) (p := 2) (by simp [scal, hd] <;> omega) ?_
   refine awp_exit ?_
   show awp _ _ _ _
   refine awp_seqR fun K hK => ?_
   simp (disch := omega) [ints, rows, scal, wr64, wr8]
   (repeat' first | apply hK | apply And.intro) <;> try first | (show okH _ _ _ = true; kernel_rfl) | omega | rfl | (simp <;> omega)
   refine awp_ret ?_
   refine ⟨⟨.inr rfl, _, [], (by simp; rfl), trivial, trivial, by simp [moV, turnM, rvF_zero, niT, nI, rvF_len], ?_⟩, by simp [moV, turnM, rvF_zero, niT, nI, rvF_len]⟩
   simp [ints, rows, moV, turnM, rvF_zero, niT, nI, rvF_len]
  ·obtain ⟨j, rfl⟩ : ∃ j, k = j + 1 := ⟨k - 1, by omega⟩
   have hd : dI (j + 1) = (j : Int) := by unfold dI; omega
   have hd2 : dI j = (j : Int) - 1 := rfl
   have hjl : j < U.length := by omega
   have hn : (nI U)[j]? = some (U[j] : Int) := nI_get hjl
   have hrl := rvF_len (S := U) (k := j + 1)
   refine awp_seqR fun K hK => ?_
   simp (disch := omega) [ints, rows, scal, wr64, wr8, hd]
   (repeat' first | apply hK | apply And.intro) <;> try first | (show okH _ _ _ = true; kernel_rfl) | omega | rfl | (simp <;> omega)
   refine awp_cond (b := true) (p := 2) (by simp [scal, hd] <;> omega) ?_
   refine awp_skip ?_
   show awp _ _ _ _
   refine awp_seq ?_
   refine awp_block ?_
   refine awp_RD (by kernel_rfl) (fun K hK => ?_)
   simp (disch := omega) [ints, rows, scal, wr64, wr8, hd, hjl, hn, hrl]
   (repeat' first | apply hK | apply And.intro) <;> try first | (show chkD _ _ = true; kernel_rfl) | (show okH _ _ _ = true; kernel_rfl) | omega | rfl | (simp <;> omega)
   show awp _ _ _ _
   refine awp_R fun K hK => ?_
   simp (disch := omega) [ints, rows, scal, wr64, wr8, hd]
   (repeat' first | apply hK | apply And.intro) <;> try first | (show okH _ _ _ = true; kernel_rfl) | omega | rfl | (simp <;> omega)
   refine ⟨j, by omega, by omega, ?_⟩
   refine wk_list [(0, some 0), (1, some 1), (2, some 2), (3, some 3)] rfl ?_ ?_ ?_ ?_
   all_goals try simp [ints, rvF_succ hjl, niT_snoc, hd2, hrl]
   omega
 ·obtain ⟨j, rfl⟩ : ∃ j, k = j + 1 := ⟨k - 1, by omega⟩
  have hd : dI (j + 1) = (j : Int) := by unfold dI; omega
  have hd2 : dI j = (j : Int) - 1 := rfl
  have hjl : j < S.length := by omega
  have hn : (nI S)[j]? = some (S[j] : Int) := nI_get hjl
  have hrl := rvF_len (S := S) (k := j + 1)
  refine awp_seqR fun K hK => ?_
  simp (disch := omega) [ints, rows, scal, wr64, wr8, hd]
  (repeat' first | apply hK | apply And.intro) <;> try first | (show okH _ _ _ = true; kernel_rfl) | omega | rfl | (simp <;> omega)
  refine awp_cond (b := true) (p := 2) (by simp [scal, hd] <;> omega) ?_
  refine awp_skip ?_
  show awp _ _ _ _
  refine awp_seq ?_
  refine awp_block ?_
  refine awp_RD (by kernel_rfl) (fun K hK => ?_)
  simp (disch := omega) [ints, rows, scal, wr64, wr8, hd, hjl, hn, hrl]
  (repeat' first | apply hK | apply And.intro) <;> try first | (show chkD _ _ = true; kernel_rfl) | (show okH _ _ _ = true; kernel_rfl) | omega | rfl | (simp <;> omega)
  show awp _ _ _ _
  refine awp_R fun K hK => ?_
  simp (disch := omega) [ints, rows, scal, wr64, wr8, hd]
  (repeat' first | apply hK | apply And.intro) <;> try first | (show okH _ _ _ = true; kernel_rfl) | omega | rfl | (simp <;> omega)
  refine ⟨j, by omega, by omega, ?_⟩
  refine wk_list [(0, some 0), (1, some 1), (2, some 2), (3, some 3)] rfl ?_ ?_ ?_ ?_
  all_goals try simp [ints, rvF_succ hjl, niT_snoc, hd2, hrl]
  omega

attribute [local simp] KL_ap KD_ap awpL_nil awpL_cons awpD_nil awpD_cons awpOp awpOpD wrE gd aop aBuiltin aNil aMin ASt.eval AV.ofV dstOk ASt.app Eff.heap dels upd_b aLoad aStore aField aFieldV aIndexAddr aIndex aSlice aSliceO aLen aBin iB sB aUn aConv aAlloc aBox aBuild afill avCells AV.leaf setR aBuildSlice frz frzL isOwn vecOf tsOf aMake srcOf aAppend aMkMap aMapUpd aLookup oint cut putL AObj.cnt mkS envOf_nil envOf_cons heapOf_nil heapOf_cons argS Nat.blt_eq callS outV outVs outO heap2 addL delL List.getElem?_cons_zero okO inPs inP wkE wkP wkPs wkH wkO keysNd unm mpOf_nil mpOf_cons ghA ghA1
set_option linter.unusedSimpArgs false

theorem pth_len (L : Nat) (bs : List Bool) (nx : List (List Int)) : ∀ (f q : Nat) (p : Mo), p ∈ pth L bs nx f q → p.1.length = p.2.length + 1
 | 0, q, p, h => by simp [pth] at h
 | f + 1, q, p, h => by
  simp only [pth, List.mem_append, List.mem_flatMap, List.mem_range] at h
  rcases h with h | ⟨x, hx, h⟩
  ·split at h
   ·simp only [List.mem_singleton] at h; subst h; simp
   ·simp at h
  ·split at h
   ·simp at h
   ·obtain ⟨r, hr, rfl⟩ := List.mem_map.1 h
    have := pth_len L bs nx f _ r hr
    simp [conM, this]
theorem rightP_fit {L m : Nat} {bs : List Bool} {nx : List (List Int)} {l : List Mo} (h : rightP L m bs nx = (l, 0)) : l.length ≤ 400 ∧ ∀ p ∈ l, p.1.length ≤ 61 ∧ p.2.length ≤ 60 := by
 by_cases hA : Acy L m nx
 ·by_cases hF : Fits 0 0 (pX L m bs nx 0)
  ·rw [rightP_ok hA hF] at h
   simp only [Prod.mk.injEq] at h
   obtain ⟨rfl, -⟩ := h
   refine ⟨by have := hF.1; omega, fun p hp => ?_⟩
   have h1 := hF.2 p hp
   have h2 := pth_len L bs nx _ _ p hp
   omega
  ·rw [rightP_lim hA hF] at h
   simp at h
 ·rw [rightP_cyc hA] at h
  simp at h
theorem shrt_of {L m : Nat} {bs : List Bool} {nx : List (List Int)} {l : List Mo} (h : rightP L m bs nx = (l, 0)) : Shrt l := fun j hj => by
 have h2 : j / 2 < l.length := by omega
 have := (rightP_fit h).2 l[j / 2] (by simp)
 unfold moR
 rw [List.getD_eq_getElem?_getD, List.getElem?_eq_getElem h2]
 by_cases e : j % 2 = 0
 ·rw [if_pos e]; simp only [Option.getD_some]; omega
 ·rw [if_neg e]; simp only [Option.getD_some]; omega
theorem mosC_two {l : List Mo} {i : Nat} (h : i < l.length) : List.take 2 (List.drop (i * 2) (mosC l)) = [ints (nI l[i].1), ints (nI l[i].2)] := by
 have hd : ∀ (l : List Mo) (k : Nat), (mosC l).drop (k * 2) = mosC (l.drop k) := fun l => by
  induction l with
  | nil => intro k; simp [mosC]
  | cons m l ih =>
   intro k
   cases k with
   | zero => simp
   | succ k =>
    have := ih k
    rw [show (k + 1) * 2 = k * 2 + 2 by omega]
    simpa [mosC] using this
 rw [hd, List.drop_eq_getElem_cons h]
 rfl
theorem mosC_in {l : List Mo} {k : Nat} (h : k < l.length) : k * 2 + 2 ≤ l.length * 2 := by omega
theorem turn_take {l : List Mo} {i : Nat} (h : i < l.length) : (l.take (i + 1)).map turnM = (l.take i).map turnM ++ [turnM l[i]] := by
 rw [List.take_succ_eq_append_getElem h, List.map_append]
 rfl
def turnT (l : List Mo) (i : Nat) : List Mo := (l.take i).map turnM
theorem turnT_len {l : List Mo} {i : Nat} (h : i ≤ l.length) : (turnT l i).length = i := by simp [turnT]; omega
set_option maxRecDepth 100000 in
set_option maxHeartbeats 16000000 in
theorem rLeft0_fn {L n s : Nat} {bs : List Bool} {nxt : List (List Int)} (h : DfL L n s bs nxt) (hL : 1 ≤ L) (hL2 : L ≤ 6) (hn : n ≤ 9) : ∃ res, (∃ m b1 nx m2 b2 nx2, MiX L n s bs nxt m b1 nx ∧ RvX L m b1 nx m2 b2 nx2 ∧ (res = monR (leftR (rightP L m2 b2 nx2)) ∨ ∃ e, rightP L m2 b2 nx2 = ([], e) ∧ res = monE e)) ∧ FnS Tryd.prog 21 [dfT 0 L s bs nxt] [] res [] := by
 obtain ⟨_, ⟨m, b1, nx, m2, b2, nx2, hX, hR, rfl⟩, hrev⟩ := rreverse_fn h hL hL2 hn
 have hD2 := hR.1.df
 obtain ⟨m3, b3, nx3, hX3, hright⟩ := rRight_fn hD2 hL hL2 hR.2.1
 obtain ⟨rfl, rfl, rfl⟩ := hX3.mn.eq (by omega) hR.1 hX3.lang
 obtain ⟨l, e, hp⟩ : ∃ l e, rightP L m3 b3 nx3 = (l, e) := ⟨_, _, rfl⟩
 have hcase : (e = 0 ∧ True) ∨ (e ≠ 0 ∧ l = []) := by
  by_cases hA : Acy L m3 nx3
  ·by_cases hF : Fits 0 0 (pX L m3 b3 nx3 0)
   ·rw [rightP_ok hA hF] at hp
    simp only [Prod.mk.injEq] at hp
    exact .inl ⟨hp.2.symm, trivial⟩
   ·rw [rightP_lim hA hF] at hp
    simp only [Prod.mk.injEq] at hp
    exact .inr ⟨by omega, hp.1.symm⟩
  ·rw [rightP_cyc hA] at hp
   simp only [Prod.mk.injEq] at hp
   exact .inr ⟨by omega, hp.1.symm⟩
 rw [hp] at hright
 refine fn_introE Tryd.func21 rfl (by simp [Tryd.f21]) ?_
 rw [show Tryd.f21.ntmps = 44 from rfl, show Tryd.f21.results = #[.tmp 2, .tmp 3] from rfl]
 refine awp_seqR fun K hK => ?_
 simp (disch := omega) [ints, rows, scal, wr64, wr8, dfT, bools]
 (repeat' first | apply hK | apply And.intro) <;> try first | (show okH _ _ _ = true; kernel_rfl) | omega | rfl | (simp <;> omega)
 refine awp_seq ?_
 refine awp_seqR fun K hK => ?_
 simp (disch := omega) [ints, rows, scal, wr64, wr8]
 (repeat' apply And.intro)
 all_goals (try omega)
 refine call_rule (caps := []) (validate07_fn h hL hL2 (by omega)) [] [] 2 rfl rfl rfl rfl (by kernel_rfl) (by simp) ?_ trivial trivial rfl trivial trivial (by simp) ?_
 ·simp [scal, rows, ints, dfT, bools]
 simp (disch := omega) [ints, rows, scal, wr64, wr8]
 (repeat' first | apply hK | apply And.intro) <;> try first | (show okH _ _ _ = true; kernel_rfl) | omega | rfl | (simp <;> omega)
 refine awp_seqR fun K hK => ?_
 simp (disch := omega) [ints, rows, scal, wr64, wr8]
 (repeat' first | apply hK | apply And.intro) <;> try first | (show okH _ _ _ = true; kernel_rfl) | omega | rfl | (simp <;> omega)
 refine awp_cond (b := false) (p := 2) (by simp [scal] <;> omega) ?_
 refine awp_skip ?_
 show awp _ _ _ _
 refine awp_seqR fun K hK => ?_
 simp (disch := omega) [ints, rows, scal, wr64, wr8]
 (repeat' apply And.intro)
 all_goals (try omega)
 refine call_rule (caps := []) (hrev) [] [] 2 rfl rfl rfl rfl (by kernel_rfl) (by simp) ?_ trivial trivial rfl trivial trivial (by simp) ?_
 ·simp [scal, rows, ints, dfT, bools]
 simp (disch := omega) [ints, rows, scal, wr64, wr8, dfT, bools]
 (repeat' first | apply hK | apply And.intro) <;> try first | (show okH _ _ _ = true; kernel_rfl) | omega | rfl | (simp <;> omega)
 refine awp_seq ?_
 refine awp_seqR fun K hK => ?_
 simp (disch := omega) [ints, rows, scal, wr64, wr8]
 (repeat' first | apply hK | apply And.intro) <;> try first | (show okH _ _ _ = true; kernel_rfl) | omega | rfl | (simp <;> omega)
 refine awp_cond (b := false) (p := 2) (by simp [scal] <;> omega) ?_
 refine awp_skip ?_
 show awp _ _ _ _
 refine awp_seqR fun K hK => ?_
 simp (disch := omega) [ints, rows, scal, wr64, wr8]
 (repeat' apply And.intro)
 all_goals (try omega)
 refine call_rule (caps := []) (hright) [] [] 2 rfl rfl rfl rfl (by kernel_rfl) (by simp) ?_ trivial trivial rfl trivial trivial (by simp) ?_
 ·simp [scal, rows, ints, dfT, bools]
 simp (disch := omega) [ints, rows, scal, wr64, wr8, monR]
 (repeat' first | apply hK | apply And.intro) <;> try first | (show okH _ _ _ = true; kernel_rfl) | omega | rfl | (simp <;> omega)
 refine awp_seq ?_
 rcases hcase with ⟨rfl, -⟩ | ⟨he, rfl⟩
 ·obtain ⟨hl400, hls⟩ := rightP_fit hp
  refine awp_seqR fun K hK => ?_
  simp (disch := omega) [ints, rows, scal, wr64, wr8]
  (repeat' first | apply hK | apply And.intro) <;> try first | (show okH _ _ _ = true; kernel_rfl) | omega | rfl | (simp <;> omega)
  refine awp_cond (b := false) (p := 2) (by simp [scal] <;> omega) ?_
  refine awp_skip ?_
  show awp _ _ _ _
  refine awp_seqR fun K hK => ?_
  simp (disch := omega) [ints, rows, scal, wr64, wr8]
  (repeat' first | apply hK | apply And.intro) <;> try first | (show okH _ _ _ = true; kernel_rfl) | omega | rfl | (simp <;> omega)
  refine awp_seq ?_
  refine awp_seqR fun K hK => ?_
  simp (disch := omega) [ints, rows, scal, wr64, wr8]
  (repeat' first | apply hK | apply And.intro) <;> try first | (show okH _ _ _ = true; kernel_rfl) | omega | rfl | (simp <;> omega)
  refine awp_block ?_
  refine awp_loop (fun i : Nat => mkS [(8, .own 0 (i * 2)), (31, .t 2 (.sl 2 (mosC l))), (32, .t 2 (.int .i64 l.length)), (33, .t 2 (.int .i64 i))] [(0, .row 37 2 2 (mosC (turnT l i)))] 1 44 [.any]) (fun i => i ≤ l.length) (fun i => l.length - i) ?_ ?_
  ·refine ⟨0, by omega, ?_⟩
   refine wk_list [(0, none)] rfl ?_ ?_ ?_ ?_
   all_goals try simp [ints, turnT, mosC, dfT]
  intro i hi
  refine awp_seqR fun K hK => ?_
  simp (disch := omega) [ints, rows, scal, wr64, wr8]
  (repeat' first | apply hK | apply And.intro) <;> try first | (show okH _ _ _ = true; kernel_rfl) | omega | rfl | (simp <;> omega)
  refine awp_seq ?_
  by_cases hil : i < l.length
  ·have hat := mosC_two hil
   have hin := mosC_in hil
   have hsp := hls l[i] (by simp)
   have htn := turn_fn l[i] (by omega) (by omega)
   have htk : turnT l (i + 1) = turnT l i ++ [turnM l[i]] := turn_take hil
   have hlen := turnT_len (l := l) (i := i) (by omega)
   refine awp_cond (b := true) (p := 2) (by simp [scal, hil] <;> omega) ?_
   refine awp_skip ?_
   show awp _ _ _ _
   refine awp_seq ?_
   refine awp_block ?_
   refine awp_seqR fun K hK => ?_
   simp (disch := omega) [ints, rows, scal, wr64, wr8, hat, hin]
   (repeat' first | apply hK | apply And.intro) <;> try first | (show okH _ _ _ = true; kernel_rfl) | omega | rfl | (simp <;> omega)
   refine awp_R fun K hK => ?_
   simp (disch := omega) [ints, rows, scal, wr64, wr8]
   (repeat' apply And.intro)
   all_goals (try omega)
   refine call_rule (caps := []) (htn) [] [] 2 rfl rfl rfl rfl (by kernel_rfl) (by simp) ?_ trivial trivial rfl trivial trivial (by simp) ?_
   ·simp [scal, rows, ints, moV]
   simp (disch := omega) [ints, rows, scal, wr64, wr8, moV, hlen]
   (repeat' first | apply hK | apply And.intro) <;> try first | (show okH _ _ _ = true; kernel_rfl) | omega | rfl | (simp <;> omega)
   show awp _ _ _ _
   refine awp_R fun K hK => ?_
   simp (disch := omega) [ints, rows, scal, wr64, wr8]
   (repeat' first | apply hK | apply And.intro) <;> try first | (show okH _ _ _ = true; kernel_rfl) | omega | rfl | (simp <;> omega)
   refine ⟨i + 1, by omega, by omega, ?_⟩
   refine wk_list [(0, some 0)] rfl ?_ ?_ ?_ ?_
   all_goals try simp [ints, htk, mosC_snoc, hlen, Nat.add_mul]
  ·obtain rfl : i = l.length := by omega
   have hall : turnT l l.length = l.map turnM := by simp [turnT]
   refine awp_cond (b := false) (p := 2) (by simp [scal] <;> omega) ?_
   refine awp_exit ?_
   show awp _ _ _ _
   refine awp_seqR fun K hK => ?_
   simp (disch := omega) [ints, rows, scal, wr64, wr8]
   (repeat' first | apply hK | apply And.intro) <;> try first | (show okH _ _ _ = true; kernel_rfl) | omega | rfl | (simp <;> omega)
   refine awp_ret ?_
   refine ⟨_, ⟨m, b1, nx, m3, b3, nx3, hX, hR, .inl rfl⟩, ?_⟩
   rw [hp]
   refine ⟨⟨.inr rfl, _, [], rfl, trivial, trivial, by simp [dfT, monR, leftR, hall], ?_⟩, by simp [dfT, monR, leftR, hall]⟩
   simp [dfT, monR, leftR, hall]
 ·have heb : (e != 0) = true := bne_iff_ne.2 he
  refine awp_seqR fun K hK => ?_
  simp (disch := omega) [ints, rows, scal, wr64, wr8, heb]
  (repeat' first | apply hK | apply And.intro) <;> try first | (show okH _ _ _ = true; kernel_rfl) | omega | rfl | (simp <;> omega)
  refine awp_cond (b := true) (p := 2) (by simp [scal, he] <;> omega) ?_
  refine awp_seqR fun K hK => ?_
  simp (disch := omega) [ints, rows, scal, wr64, wr8]
  (repeat' first | apply hK | apply And.intro) <;> try first | (show okH _ _ _ = true; kernel_rfl) | omega | rfl | (simp <;> omega)
  refine awp_ret ?_
  refine ⟨_, ⟨m, b1, nx, m3, b3, nx3, hX, hR, .inr ⟨e, hp, rfl⟩⟩, ?_⟩
  refine ⟨⟨.inr rfl, _, [], rfl, trivial, trivial, by simp [dfT, monE], ?_⟩, by simp [dfT, monE]⟩
  simp [dfT, monE]
theorem lefts_fn {L n s : Nat} {bs : List Bool} {nxt : List (List Int)} (h : DfL L n s bs nxt) (hL : 1 ≤ L) (hL2 : L ≤ 6) (hn : n ≤ 9) : ∃ l e, (l.length ≤ 400 ∧ ∀ p ∈ l, p.1.length ≤ 61 ∧ p.2.length ≤ 61) ∧ FnA Tryd.prog 20 [dfT 0 L s bs nxt] (monR (l, e)) ∧ FnA Tryd.prog 21 [dfT 0 L s bs nxt] (monR (l, e)) := by
 obtain ⟨r1, ⟨m, b1, nx, m2, b2, nx2, hX, hR, c1⟩, k1⟩ := left0_fn h hL hL2 hn (fun m b nx l hp => shrt_of hp)
 obtain ⟨r2, ⟨m', b1', nx', m2', b2', nx2', hX', hR', c2⟩, k2⟩ := rLeft0_fn h hL hL2 hn
 obtain ⟨rfl, rfl, rfl⟩ := hX.eq (by omega) hX'
 obtain ⟨rfl, rfl, rfl⟩ := hR.1.eq (by omega) hR'.1 (fun w hw => by rw [hR.2.2 w hw, hR'.2.2 w hw])
 obtain ⟨l, e, hp⟩ : ∃ l e, rightP L m2 b2 nx2 = (l, e) := ⟨_, _, rfl⟩
 refine ⟨l.map turnM, e, ?_, ?_, ?_⟩
 ·by_cases he : e = 0
  ·subst he
   obtain ⟨h1, h2⟩ := rightP_fit hp
   refine ⟨by simpa using h1, fun p hp2 => ?_⟩
   obtain ⟨q, hq, rfl⟩ := List.mem_map.1 hp2
   have := h2 q hq
   simp [turnM]
   omega
  ·have hl : l = [] := by
    by_cases hA : Acy L m2 nx2
    ·by_cases hF : Fits 0 0 (pX L m2 b2 nx2 0)
     ·rw [rightP_ok hA hF] at hp
      simp only [Prod.mk.injEq] at hp
      exact absurd hp.2.symm he
     ·rw [rightP_lim hA hF] at hp
      simp only [Prod.mk.injEq] at hp
      exact hp.1.symm
    ·rw [rightP_cyc hA] at hp
     simp only [Prod.mk.injEq] at hp
     exact hp.1.symm
   subst hl
   simp
 ·rcases c1 with rfl | ⟨e', e1, rfl⟩
  ·rw [hp] at k1; exact k1
  ·rw [hp] at e1
   simp only [Prod.mk.injEq] at e1
   obtain ⟨rfl, rfl⟩ := e1
   exact k1.resX fun E v => monE_R
 ·rcases c2 with rfl | ⟨e', e1, rfl⟩
  ·rw [hp] at k2; exact k2
  ·rw [hp] at e1
   simp only [Prod.mk.injEq] at e1
   obtain ⟨rfl, rfl⟩ := e1
   exact k2.resX fun E v => monE_R
theorem rights_fn {L n s : Nat} {bs : List Bool} {nxt : List (List Int)} (h : DfL L n s bs nxt) (hL : 1 ≤ L) (hL2 : L ≤ 6) (hn : n ≤ 512) : ∃ l e, (l.length ≤ 400 ∧ ∀ p ∈ l, p.1.length ≤ 61 ∧ p.2.length ≤ 61) ∧ FnA Tryd.prog 18 [dfT 0 L s bs nxt] (monR (l, e)) ∧ FnA Tryd.prog 19 [dfT 0 L s bs nxt] (monR (l, e)) := by
 obtain ⟨m, b1, nx, hX, k1⟩ := right_fn h hL hL2 hn
 obtain ⟨m', b1', nx', hX', k2⟩ := rRight_fn h hL hL2 hn
 obtain ⟨rfl, rfl, rfl⟩ := hX.eq (by omega) hX'
 obtain ⟨l, e, hp⟩ : ∃ l e, rightP L m b1 nx = (l, e) := ⟨_, _, rfl⟩
 rw [hp] at k1 k2
 refine ⟨l, e, ?_, k1, k2⟩
 by_cases he : e = 0
 ·subst he
  obtain ⟨h1, h2⟩ := rightP_fit hp
  exact ⟨h1, fun p hp => by have := h2 p hp; omega⟩
 ·have hl : l = [] := by
   by_cases hA : Acy L m nx
   ·by_cases hF : Fits 0 0 (pX L m b1 nx 0)
    ·rw [rightP_ok hA hF] at hp
     simp only [Prod.mk.injEq] at hp
     exact absurd hp.2.symm he
    ·rw [rightP_lim hA hF] at hp
     simp only [Prod.mk.injEq] at hp
     exact hp.1.symm
   ·rw [rightP_cyc hA] at hp
    simp only [Prod.mk.injEq] at hp
    exact hp.1.symm
  subst hl
  simp
set_option maxRecDepth 100000 in
set_option maxHeartbeats 8000000 in
theorem rsame35_fn (l : List Mo) (h1 : l.length ≤ 400) (h2 : ∀ p ∈ l, p.1.length ≤ 61 ∧ p.2.length ≤ 61) : FnA Tryd.prog 24 [.t 0 (.sl 2 (mosC l)), .t 0 (.sl 2 (mosC l))] (.t 2 (.bool true)) := by
 refine fn_intro Tryd.func24 rfl (by simp [Tryd.f24]) ?_
 rw [show Tryd.f24.ntmps = 43 from rfl, show Tryd.f24.results = #[.tmp 4] from rfl]
 refine awp_seqR fun K hK => ?_
 simp (disch := omega) [ints, rows, scal, wr64, wr8]
 (repeat' first | apply hK | apply And.intro) <;> try first | (show okH _ _ _ = true; kernel_rfl) | omega | rfl | (simp <;> omega)
 refine awp_seq ?_
 refine awp_seqR fun K hK => ?_
 simp (disch := omega) [ints, rows, scal, wr64, wr8]
 (repeat' first | apply hK | apply And.intro) <;> try first | (show okH _ _ _ = true; kernel_rfl) | omega | rfl | (simp <;> omega)
 refine awp_cond (b := false) (p := 2) (by simp [scal] <;> omega) ?_
 refine awp_skip ?_
 show awp _ _ _ _
 refine awp_seq ?_
 refine awp_seqR fun K hK => ?_
 simp (disch := omega) [ints, rows, scal, wr64, wr8]
 (repeat' first | apply hK | apply And.intro) <;> try first | (show okH _ _ _ = true; kernel_rfl) | omega | rfl | (simp <;> omega)
 refine awp_block ?_
 refine awp_loop (fun k : Nat => mkS [(0, .t 0 (.sl 2 (mosC l))), (1, .t 0 (.sl 2 (mosC l))), (12, .t 2 (.int .i64 l.length)), (13, .t 2 (.int .i64 k))] [] 0 43 [.any, .any]) (fun k => k ≤ l.length) (fun k => l.length - k) ?_ ?_
 ·refine ⟨0, by omega, ?_⟩
  refine wk_list [] rfl ?_ ?_ ?_ ?_
  all_goals try simp [ints]
 intro k hk
 refine awp_seqR fun K hK => ?_
 simp (disch := omega) [ints, rows, scal, wr64, wr8]
 (repeat' first | apply hK | apply And.intro) <;> try first | (show okH _ _ _ = true; kernel_rfl) | omega | rfl | (simp <;> omega)
 refine awp_seq ?_
 by_cases hkl : k < l.length
 ·have hat := mosC_two hkl
  have hin := mosC_in hkl
  have hsp := h2 l[k] (by simp)
  have hs1 := same_fn (nI l[k].1) (nI l[k].1) (by simp; omega)
  have hs2 := same_fn (nI l[k].2) (nI l[k].2) (by simp; omega)
  refine awp_cond (b := true) (p := 2) (by simp [scal, hkl] <;> omega) ?_
  refine awp_skip ?_
  show awp _ _ _ _
  refine awp_seq ?_
  refine awp_block ?_
  refine awp_seqR fun K hK => ?_
  simp (disch := omega) [ints, rows, scal, wr64, wr8]
  (repeat' first | apply hK | apply And.intro) <;> try first | (show okH _ _ _ = true; kernel_rfl) | omega | rfl | (simp <;> omega)
  refine awp_seqD (by kernel_rfl) (fun K hK => ?_)
  simp (disch := omega) [ints, rows, scal, wr64, wr8, hat, hin]
  (repeat' apply And.intro)
  all_goals (try omega)
  refine call_ruleD (caps := []) (hs1) [] [] 2 rfl rfl rfl rfl (by kernel_rfl) (by simp) ?_ trivial trivial rfl trivial trivial (by simp) ?_
  ·simp [scal, rows, ints]
  simp (disch := omega) [ints, rows, scal, wr64, wr8, hat, hin]
  (repeat' apply And.intro)
  all_goals (try omega)
  refine call_ruleD (caps := []) (hs2) [] [] 2 (by simp [scal, rows, ints]) rfl rfl rfl (by kernel_rfl) (by simp) ?_ trivial trivial rfl trivial trivial (by simp) ?_
  ·simp [scal, rows, ints]
  simp (disch := omega) [ints, rows, scal, wr64, wr8]
  (repeat' first | apply hK | apply And.intro) <;> try first | (show chkD _ _ = true; kernel_rfl) | (show okH _ _ _ = true; kernel_rfl) | omega | rfl | (simp <;> omega)
  refine awp_cond (b := false) (p := 2) (by simp [scal] <;> omega) ?_
  refine awp_skip ?_
  show awp _ _ _ _
  refine awp_R fun K hK => ?_
  simp (disch := omega) [ints, rows, scal, wr64, wr8]
  (repeat' first | apply hK | apply And.intro) <;> try first | (show okH _ _ _ = true; kernel_rfl) | omega | rfl | (simp <;> omega)
  refine ⟨k + 1, by omega, by omega, ?_⟩
  refine wk_list [] rfl ?_ ?_ ?_ ?_
  all_goals try simp [ints]
 ·refine awp_cond (b := false) (p := 2) (by simp [scal, hkl] <;> omega) ?_
  refine awp_exit ?_
  show awp _ _ _ _
  refine awp_seqR fun K hK => ?_
  simp (disch := omega) [ints, rows, scal, wr64, wr8]
  (repeat' first | apply hK | apply And.intro) <;> try first | (show okH _ _ _ = true; kernel_rfl) | omega | rfl | (simp <;> omega)
  refine awp_ret ?_
  refine ⟨⟨.inr rfl, _, [], rfl, trivial, trivial, by simp, ?_⟩, by simp⟩
  simp

attribute [local simp] KL_ap KD_ap awpL_nil awpL_cons awpD_nil awpD_cons awpOp awpOpD wrE gd aop aBuiltin aNil aMin ASt.eval AV.ofV dstOk ASt.app Eff.heap dels upd_b aLoad aStore aField aFieldV aIndexAddr aIndex aSlice aSliceO aLen aBin iB sB aUn aConv aAlloc aBox aBuild afill avCells AV.leaf setR aBuildSlice frz frzL isOwn vecOf tsOf aMake srcOf aAppend aMkMap aMapUpd aLookup oint cut putL AObj.cnt mkS envOf_nil envOf_cons heapOf_nil heapOf_cons argS Nat.blt_eq callS outV outVs outO heap2 addL delL List.getElem?_cons_zero ndL okO inPs inP inOs inO wkE wkP wkPs wkH wkO idxF keysNd unm mpOf_nil mpOf_cons resV ghA ghA1
set_option linter.unusedSimpArgs false

set_option maxRecDepth 100000 in
set_option maxHeartbeats 4000000 in
theorem lettersT_fn (xs : List Int) (a : Nat) (ha : a ≤ xs.length) (hl : xs.length ≤ 80) : ∃ L b : Nat, (L = 1 ∨ L = 2) ∧ b ≤ xs.length ∧ FnS Tryd.prog 16 [.ptr 0 0 2] [tpO 1 xs a] (.t 2 (.int .i64 (L : Nat))) [tpO 1 xs b] := by
 obtain ⟨v, b, hv, hb, hN⟩ := next_fn xs a 8 ha hl (by omega)
 have hv := hv (by omega)
 obtain ⟨L, hL, hLv⟩ : ∃ L : Nat, (L = 1 ∨ L = 2) ∧ 2 - (v : Int).tdiv 7 = (L : Int) := by
  by_cases h : v = 7
  ·subst h; exact ⟨1, .inl rfl, by decide⟩
  ·refine ⟨2, .inr rfl, ?_⟩
   rw [Int.tdiv_eq_zero_of_lt (by omega) (by omega)]; rfl
 have hd : (v : Int).tdiv 7 = 2 - (L : Int) := by omega
 refine ⟨L, b, hL, hb, ?_⟩
 refine fn_intro Tryd.func16 rfl (by simp [Tryd.f16]) ?_
 rw [show Tryd.f16.ntmps = 7 from rfl, show Tryd.f16.results = #[.tmp 2] from rfl]
 refine awp_seqR fun K hK => ?_
 simp (disch := omega) [ints, rows, scal, wr64, wr8]
 (repeat' first | apply hK | apply And.intro) <;> try first | (show okH _ _ _ = true; kernel_rfl) | omega | rfl | (simp <;> omega)
 refine awp_seqR fun K hK => ?_
 simp (disch := omega) [ints, rows, scal, wr64, wr8]
 (repeat' apply And.intro)
 all_goals (try omega)
 refine call_rule (caps := []) (hN) [0] [0] 1 rfl rfl rfl rfl (by kernel_rfl) (by simp) ?_ ?_ (by simp) rfl (by simp) ⟨.inr ⟨rfl, 0, _, _, _, _, _, rfl, rfl, rfl, rfl, rfl⟩, trivial⟩ (by simp [tpO]) ?_
 ·simp [scal, rows, ints, tpO]
 ·simp [scal, rows, ints, tpO]
 simp (disch := omega) [ints, rows, scal, wr64, wr8, tpO, hd]
 (repeat' first | apply hK | apply And.intro) <;> try first | (show okH _ _ _ = true; kernel_rfl) | omega | rfl | (simp <;> omega)
 refine awp_ret ?_
 refine ⟨⟨.inr rfl, _, [(0, some 0)], (by first | rfl | (simp [ints, rows, scal, tpO]; rfl)), ?_, ?_, ?_, ?_⟩, ?_⟩
 all_goals try simp [ints, rows, scal, tpO]
 omega
set_option maxRecDepth 100000 in
set_option maxHeartbeats 8000000 in
theorem mOrdered_fn {L n s : Nat} {bs : List Bool} {nxt : List (List Int)} (h : DfL L n s bs nxt) (hL : 1 ≤ L) (hL2 : L ≤ 6) (hn : n ≤ 512) : ∃ res, (∃ b m bs' nx', MiX L n s bs nxt m bs' nx' ∧ (b = true ↔ Acy L m nx') ∧ res = .t 2 (.bool b)) ∧ FnS Tryd.prog 22 [dfT 0 L s bs nxt] [] res [] := by
 have hval := dvalidate_fn h hL hL2 hn
 obtain ⟨_, ⟨m, bs', nx', hX, rfl⟩, hmin⟩ := mzMinimal_fn h hL hL2 hn
 have hmn := hX.le
 obtain ⟨_, ⟨b, hb, rfl⟩, hord⟩ := mordered_fn hX.mn.df hL hL2 (by omega)
 refine fn_introE Tryd.func22 rfl (by simp [Tryd.f22]) ?_
 rw [show Tryd.f22.ntmps = 11 from rfl, show Tryd.f22.results = #[.tmp 2] from rfl]
 refine awp_seqR fun K hK => ?_
 simp (disch := omega) [ints, rows, scal, wr64, wr8, dfT, bools]
 (repeat' first | apply hK | apply And.intro) <;> try first | (show okH _ _ _ = true; kernel_rfl) | omega | rfl | (simp <;> omega)
 refine awp_seqR fun K hK => ?_
 simp (disch := omega) [ints, rows, scal, wr64, wr8]
 (repeat' apply And.intro)
 all_goals (try omega)
 refine call_rule (caps := []) (hval) [] [] 2 rfl rfl rfl rfl (by kernel_rfl) (by simp) ?_ trivial trivial rfl trivial trivial (by simp) ?_
 ·simp [scal, rows, ints, dfT, bools]
 simp (disch := omega) [ints, rows, scal, wr64, wr8, dfT, bools]
 (repeat' apply And.intro)
 all_goals (try omega)
 refine call_rule (caps := []) (hmin) [] [] 2 (by simp [scal, rows, ints, dfT, bools]) rfl rfl rfl (by kernel_rfl) (by simp) ?_ trivial trivial rfl trivial trivial (by simp) ?_
 ·simp [scal, rows, ints, dfT, bools]
 simp (disch := omega) [ints, rows, scal, wr64, wr8, dfT, bools]
 (repeat' apply And.intro)
 all_goals (try omega)
 refine call_rule (caps := []) (hord) [] [] 2 (by simp [scal, rows, ints, dfT, bools]) rfl rfl rfl (by kernel_rfl) (by simp) ?_ trivial trivial rfl trivial trivial (by simp) ?_
 ·simp [scal, rows, ints, dfT, bools]
 simp (disch := omega) [ints, rows, scal, wr64, wr8]
 (repeat' first | apply hK | apply And.intro) <;> try first | (show okH _ _ _ = true; kernel_rfl) | omega | rfl | (simp <;> omega)
 refine awp_ret ?_
 refine ⟨_, ⟨b, m, bs', nx', hX, hb, rfl⟩, ?_⟩
 refine ⟨⟨.inr rfl, _, [], rfl, trivial, trivial, by simp [dfT], ?_⟩, by simp [dfT]⟩
 simp [dfT]
theorem ordereds_fn {L n s : Nat} {bs : List Bool} {nxt : List (List Int)} (h : DfL L n s bs nxt) (hL : 1 ≤ L) (hL2 : L ≤ 6) (hn : n ≤ 512) : ∃ b : Bool, FnA Tryd.prog 22 [dfT 0 L s bs nxt] (.t 2 (.bool b)) ∧ FnA Tryd.prog 23 [dfT 0 L s bs nxt] (.t 2 (.bool b)) := by
 obtain ⟨_, ⟨b, m, bs', nx', hX, hb, rfl⟩, k1⟩ := mOrdered_fn h hL hL2 hn
 obtain ⟨_, ⟨c, m2, bs2, nx2, hX2, hc, rfl⟩, k2⟩ := rOrdered_fn h hL hL2 hn
 obtain ⟨rfl, rfl, rfl⟩ := hX.eq (by omega) hX2
 have : b = c := by
  rw [Bool.eq_iff_iff, hb, hc]
 subst this
 exact ⟨b, k1, k2⟩
theorem kAcy : Acy 2 2 [[1, 0], [1, 1]] := by
 have s1 : ∀ x, x < 2 → stepR [[1, 0], [1, 1]] 1 x = 1 := fun x hx => by
  rcases (by omega : x = 0 ∨ x = 1) with rfl | rfl <;> rfl
 have w1 : ∀ w : List Nat, (∀ a ∈ w, a < 2) → walkR [[1, 0], [1, 1]] 1 w = 1 := by
  intro w
  induction w with
  | nil => intro _; rfl
  | cons a w ih =>
   intro hw
   have h1 := s1 a (hw a (by simp))
   have h2 := ih (fun b hb => hw b (by simp [hb]))
   simp only [walkR, List.foldl_cons] at h2 ⊢
   rw [h1]
   exact h2
 intro q x w hq hx hw hne
 rcases (by omega : q = 0 ∨ q = 1) with rfl | rfl
 ·rcases (by omega : x = 0 ∨ x = 1) with rfl | rfl
  ·rw [show stepR [[1, 0], [1, 1]] 0 0 = 1 from rfl, w1 w hw]
   omega
  ·exact absurd rfl hne
 ·exact absurd (s1 x hx) hne
theorem kDf : DfL 2 2 0 [false, true] [[1, 0], [1, 1]] := ⟨by omega, by omega, rfl, rfl, fun r hr => by
 simp only [List.mem_cons, List.not_mem_nil, or_false] at hr
 rcases hr with rfl | rfl <;> refine ⟨rfl, fun v hv => ?_⟩ <;> simp at hv <;> omega⟩
theorem kRightP : rightP 2 2 [false, true] [[1, 0], [1, 1]] = ([([2, 3], [0])], 0) := by
 have e : pX 2 2 [false, true] [[1, 0], [1, 1]] 0 = [([2, 3], [0])] := by decide
 rw [rightP_ok kAcy (by rw [e]; exact ⟨by simp, fun p hp => by simp at hp; subst hp; simp⟩), e]
theorem rightM_fn : FnA Tryd.prog 18 [dfT 0 2 0 [false, true] [[1, 0], [1, 1]]] (.tup [.t 2 (.sl 2 [ints [2, 3], ints [0]]), .t 2 (.int .i64 0)]) := by
 obtain ⟨m, b2, nx, hX, h⟩ := right_fn kDf (by omega) (by omega) (by omega)
 obtain ⟨rfl, rfl, rfl⟩ := known_pin hX
 rw [kRightP] at h
 exact h
theorem rsame35M_fn : FnA Tryd.prog 24 [.t 0 (.sl 2 [ints [2, 3], ints [0]]), .t 0 (.sl 2 [ints [2, 3], ints [0]])] (.t 2 (.bool true)) :=
 rsame35_fn [([2, 3], [0])] (by simp) (fun p hp => by simp at hp; subst hp; simp)
set_option maxRecDepth 100000 in
set_option maxHeartbeats 8000000 in
theorem known35M_fn : FnA Tryd.prog 14 [] (.t 2 (.bool true)) := by
 refine fn_intro Tryd.func14 rfl (by simp [Tryd.f14]) ?_
 rw [show Tryd.f14.ntmps = 22 from rfl, show Tryd.f14.results = #[.tmp 0] from rfl]
 refine awp_seqR fun K hK => ?_
 simp (disch := omega) [ints, rows, scal, wr64, wr8]
 (repeat' first | apply hK | apply And.intro) <;> try first | (show okH _ _ _ = true; kernel_rfl) | omega | rfl | (simp <;> omega)
 refine awp_seqR2 5 fun K hK => ?_
 simp (disch := omega) [ints, rows, scal, wr64, wr8]
 (repeat' first | apply hK | apply And.intro) <;> try first | (show okH _ _ _ = true; kernel_rfl) | omega | rfl | (simp <;> omega)
 refine ⟨mkS [(8, .agg [.t 2 (.int .i64 2), .t 2 (.int .i64 0), .t 2 (bools [false, true]), .t 2 (rows [[1, 0], [1, 1]])])] [] 0 22 [], ?_, fun K hK => ?_⟩
 ·refine wk_list [] rfl ?_ ?_ ?_ ?_
  all_goals try simp [ints, rows, ints, bools, wkTK_cons, wkTK_nil, wk1, rangeK_2]
 simp (disch := omega) [ints, rows, scal, wr64, wr8]
 (repeat' apply And.intro)
 all_goals (try omega)
 refine call_rule (caps := []) (rightM_fn) [] [] 2 rfl rfl rfl rfl (by kernel_rfl) (by simp) ?_ trivial trivial rfl trivial trivial (by simp) ?_
 ·simp [scal, rows, ints, dfT, bools]
 simp (disch := omega) [ints, rows, scal, wr64, wr8]
 (repeat' first | apply hK | apply And.intro) <;> try first | (show okH _ _ _ = true; kernel_rfl) | omega | rfl | (simp <;> omega)
 refine awp_seqR2 8 fun K hK => ?_
 simp (disch := omega) [ints, rows, scal, wr64, wr8]
 (repeat' first | apply hK | apply And.intro) <;> try first | (show okH _ _ _ = true; kernel_rfl) | omega | rfl | (simp <;> omega)
 refine ⟨mkS [(14, .t 2 (.bool true)), (15, .t 2 (.sl 2 moK)), (19, .t 2 (.sl 2 moK))] [] 0 22 [], ?_, fun K hK => ?_⟩
 ·refine wk_list [] rfl ?_ ?_ ?_ ?_
  all_goals try simp [ints, moK, ints, wkTK_cons, wkTK_nil, wk1, rangeK_2]
 simp (disch := omega) [ints, rows, scal, wr64, wr8]
 (repeat' apply And.intro)
 all_goals (try omega)
 refine call_rule (caps := []) (rsame35M_fn) [] [] 2 (by simp [scal, rows, ints, moK]) rfl rfl rfl (by kernel_rfl) (by simp) ?_ trivial trivial rfl trivial trivial (by simp) ?_
 ·simp [scal, rows, ints, moK]
 simp (disch := omega) [ints, rows, scal, wr64, wr8]
 (repeat' first | apply hK | apply And.intro) <;> try first | (show okH _ _ _ = true; kernel_rfl) | omega | rfl | (simp <;> omega)
 refine awp_ret ?_
 refine ⟨⟨.inr rfl, _, [], rfl, trivial, trivial, by simp, ?_⟩, by simp⟩
 simp

attribute [local simp] KL_ap KD_ap awpL_nil awpL_cons awpD_nil awpD_cons awpOp awpOpD wrE gd aop aBuiltin aNil aMin ASt.eval AV.ofV dstOk ASt.app Eff.heap dels upd_b aLoad aStore aField aFieldV aIndexAddr aIndex aSlice aSliceO aLen aBin iB sB aUn aConv aAlloc aBox aBuild afill avCells AV.leaf setR aBuildSlice frz frzL isOwn vecOf tsOf aMake srcOf aAppend aMkMap aMapUpd aLookup oint cut putL AObj.cnt mkS envOf_nil envOf_cons heapOf_nil heapOf_cons argS Nat.blt_eq callS outV outVs outO heap2 addL delL List.getElem?_cons_zero ndL okO inPs inP inOs inO wkE wkP wkPs wkH wkO keysNd unm mpOf_nil mpOf_cons ghA ghA1
set_option linter.unusedSimpArgs false

set_option maxRecDepth 100000 in
set_option maxHeartbeats 16000000 in
theorem monSides_fn (l : List Int) : FnA Tryd.prog 4 [.t 1 (ints l)] (.t 2 (.bool true)) := by
 have hnew := new_fn l
 obtain ⟨xs, hxs⟩ : ∃ xs, xs = l.take 80 := ⟨_, rfl⟩
 have hxl : xs.length ≤ 80 := by rw [hxs]; simp; omega
 rw [← hxs] at hnew
 obtain ⟨L, b, hL, hb, hlet⟩ := lettersT_fn xs 0 (by omega) hxl
 obtain ⟨_, _, ⟨n, s, b1, bs, nxt, hn, hb1, hD, rfl, rfl⟩, hany⟩ := anyK_fn xs b L 5 9 hb hxl hL (by omega) (by omega) (by omega) (by omega)
 obtain ⟨v, b2, hv, hb2, hnext⟩ := next_fn xs b1 2 hb1 hxl (by omega)
 have hv := hv (by omega)
 obtain ⟨L2, b3, hL2, hb3, hlet2⟩ := lettersT_fn xs b2 hb2 hxl
 obtain ⟨_, _, ⟨n2, s2, b4, bs2, nxt2, hn2, hb4, hD2, rfl, rfl⟩, hord⟩ := ordered_fn xs b3 L2 5 hb3 hxl (by omega) (by omega) (by omega) (by omega)
 refine fn_intro Tryd.func4 rfl (by simp [Tryd.f4]) ?_
 rw [show Tryd.f4.ntmps = 74 from rfl, show Tryd.f4.results = #[.tmp 2] from rfl]
 refine awp_seqR fun K hK => ?_
 simp (disch := omega) [ints, rows, scal, wr64, wr8]
 (repeat' first | apply hK | apply And.intro) <;> try first | (show okH _ _ _ = true; kernel_rfl) | omega | rfl | (simp <;> omega)
 refine awp_seqR fun K hK => ?_
 simp (disch := omega) [ints, rows, scal, wr64, wr8]
 (repeat' apply And.intro)
 all_goals (try omega)
 refine call_rule (caps := []) (hnew) [] [2000000] 1 rfl rfl rfl rfl (by kernel_rfl) (by simp) ?_ ?_ (by simp) rfl (by simp) ⟨.inl ⟨by omega, by omega⟩, trivial⟩ (by simp [tpO]) ?_
 ·simp [scal, rows, ints, tpO]
 ·trivial
 simp (disch := omega) [ints, rows, scal, wr64, wr8, tpO]
 (repeat' first | apply hK | apply And.intro) <;> try first | (show okH _ _ _ = true; kernel_rfl) | omega | rfl | (simp <;> omega)
 refine awp_weak (σ' := mkS [(3, .ptr 0 0 2)] [(0, tpO 1 xs 0)] 1 74 [.any]) ?_ ?_
 ·refine wk_list [(0, some 2000000)] rfl ?_ ?_ ?_ ?_
  all_goals try simp [ints, tpO]
 refine awp_seqR fun K hK => ?_
 simp (disch := omega) [ints, rows, scal, wr64, wr8]
 (repeat' apply And.intro)
 all_goals (try omega)
 refine call_rule (caps := []) (hlet) [0] [0] 1 rfl rfl rfl rfl (by kernel_rfl) (by simp) ?_ ?_ (by simp) rfl (by simp) ⟨.inr ⟨rfl, 0, _, _, _, _, _, rfl, rfl, rfl, rfl, rfl⟩, trivial⟩ (by simp [tpO]) ?_
 ·simp [scal, rows, ints, tpO]
 ·simp [scal, rows, ints, tpO]
 simp (disch := omega) [ints, rows, scal, wr64, wr8, tpO]
 (repeat' apply And.intro)
 all_goals (try omega)
 refine call_rule (caps := []) (hany) [0] [0] 1 rfl rfl rfl rfl (by kernel_rfl) (by simp) ?_ ?_ (by simp) rfl (by simp) ⟨.inr ⟨rfl, 0, _, _, _, _, _, rfl, rfl, rfl, rfl, rfl⟩, trivial⟩ (by simp [tpO]) ?_
 ·simp [scal, rows, ints, tpO, dfT]
 ·simp [scal, rows, ints, tpO, dfT]
 simp (disch := omega) [ints, rows, scal, wr64, wr8, dfT, bools, tpO]
 (repeat' first | apply hK | apply And.intro) <;> try first | (show okH _ _ _ = true; kernel_rfl) | omega | rfl | (simp <;> omega)
 refine awp_join (fun σ' => ∃ L n s bs nxt, 1 ≤ L ∧ L ≤ 6 ∧ n ≤ 9 ∧ DfL L n s bs nxt ∧ Wk σ' (mkS [(4, .ptr 0 0 4)] [(0, dfO2 L s bs nxt)] 1 74 [.any])) ?_ ?_
 ·rintro σ' ⟨L, n, s, bs, nxt, hL, hL6, hn, hD, hw⟩
  refine awp_weak hw ?_
  clear hw
  obtain ⟨l1, e1, ⟨hl1, hs1⟩, hr1, hr2⟩ := rights_fn hD hL hL6 (by omega)
  obtain ⟨l2, e2, ⟨hl2, hs2⟩, hf1, hf2⟩ := lefts_fn hD hL hL6 hn
  obtain ⟨c, ho1, ho2⟩ := ordereds_fn hD hL hL6 (by omega)
  have hq1 := rsame35_fn l1 hl1 hs1
  have hq2 := rsame35_fn l2 hl2 hs2
  refine awp_seqR fun K hK => ?_
  simp (disch := omega) [ints, rows, scal, wr64, wr8, dfO2]
  (repeat' apply And.intro)
  all_goals (try omega)
  refine call_rule (caps := []) (hr1) [] [] 2 rfl rfl rfl rfl (by kernel_rfl) (by simp) ?_ trivial trivial rfl trivial trivial (by simp) ?_
  ·simp [scal, rows, ints, dfT, bools]
  simp (disch := omega) [ints, rows, scal, wr64, wr8, monR]
  (repeat' first | apply hK | apply And.intro) <;> try first | (show okH _ _ _ = true; kernel_rfl) | omega | rfl | (simp <;> omega)
  refine awp_seqR fun K hK => ?_
  simp (disch := omega) [ints, rows, scal, wr64, wr8, dfO2]
  (repeat' apply And.intro)
  all_goals (try omega)
  refine call_rule (caps := []) (hr2) [] [] 2 rfl rfl rfl rfl (by kernel_rfl) (by simp) ?_ trivial trivial rfl trivial trivial (by simp) ?_
  ·simp [scal, rows, ints, dfT, bools]
  simp (disch := omega) [ints, rows, scal, wr64, wr8, monR]
  (repeat' first | apply hK | apply And.intro) <;> try first | (show okH _ _ _ = true; kernel_rfl) | omega | rfl | (simp <;> omega)
  refine awp_seqR fun K hK => ?_
  simp (disch := omega) [ints, rows, scal, wr64, wr8, dfO2]
  (repeat' apply And.intro)
  all_goals (try omega)
  refine call_rule (caps := []) (hf1) [] [] 2 rfl rfl rfl rfl (by kernel_rfl) (by simp) ?_ trivial trivial rfl trivial trivial (by simp) ?_
  ·simp [scal, rows, ints, dfT, bools]
  simp (disch := omega) [ints, rows, scal, wr64, wr8, monR]
  (repeat' first | apply hK | apply And.intro) <;> try first | (show okH _ _ _ = true; kernel_rfl) | omega | rfl | (simp <;> omega)
  refine awp_seqR fun K hK => ?_
  simp (disch := omega) [ints, rows, scal, wr64, wr8, dfO2]
  (repeat' apply And.intro)
  all_goals (try omega)
  refine call_rule (caps := []) (hf2) [] [] 2 rfl rfl rfl rfl (by kernel_rfl) (by simp) ?_ trivial trivial rfl trivial trivial (by simp) ?_
  ·simp [scal, rows, ints, dfT, bools]
  simp (disch := omega) [ints, rows, scal, wr64, wr8, monR]
  (repeat' first | apply hK | apply And.intro) <;> try first | (show okH _ _ _ = true; kernel_rfl) | omega | rfl | (simp <;> omega)
  refine awp_seqD (by kernel_rfl) (fun K hK => ?_)
  simp (disch := omega) [ints, rows, scal, wr64, wr8, dfO2]
  (repeat' apply And.intro)
  all_goals (try omega)
  refine call_ruleD (caps := []) (ho1) [] [] 2 rfl rfl rfl rfl (by kernel_rfl) (by simp) ?_ trivial trivial rfl trivial trivial (by simp) ?_
  ·simp [scal, rows, ints, dfT, bools]
  simp (disch := omega) [ints, rows, scal, wr64, wr8, dfO2]
  (repeat' apply And.intro)
  all_goals (try omega)
  refine call_ruleD (caps := []) (ho2) [] [] 2 rfl rfl rfl rfl (by kernel_rfl) (by simp) ?_ trivial trivial rfl trivial trivial (by simp) ?_
  ·simp [scal, rows, ints, dfT, bools]
  simp (disch := omega) [ints, rows, scal, wr64, wr8]
  (repeat' apply And.intro)
  all_goals (try omega)
  refine call_ruleD (caps := []) (hq1) [] [] 2 (by simp [scal, rows, ints]) rfl rfl rfl (by kernel_rfl) (by simp) ?_ trivial trivial rfl trivial trivial (by simp) ?_
  ·simp [scal, rows, ints]
  simp (disch := omega) [ints, rows, scal, wr64, wr8]
  (repeat' apply And.intro)
  all_goals (try omega)
  refine call_ruleD (caps := []) (hq2) [] [] 2 (by simp [scal, rows, ints]) rfl rfl rfl (by kernel_rfl) (by simp) ?_ trivial trivial rfl trivial trivial (by simp) ?_
  ·simp [scal, rows, ints]
  simp (disch := omega) [ints, rows, scal, wr64, wr8]
  (repeat' apply And.intro)
  all_goals (try omega)
  refine call_ruleD (caps := []) (known35M_fn) [] [] 2 (by simp [scal, rows, ints]) rfl rfl rfl (by kernel_rfl) (by simp) ?_ trivial trivial rfl trivial trivial (by simp) ?_
  ·simp [scal, rows, ints]
  simp (disch := omega) [ints, rows, scal, wr64, wr8]
  (repeat' first | apply hK | apply And.intro) <;> try first | (show chkD _ _ = true; kernel_rfl) | (show okH _ _ _ = true; kernel_rfl) | omega | rfl | (simp <;> omega)
  refine awp_ret ?_
  refine ⟨⟨.inr rfl, _, [], rfl, trivial, trivial, by simp, ?_⟩, by simp⟩
  simp
 ·refine awp_seqR fun K hK => ?_
  simp (disch := omega) [ints, rows, scal, wr64, wr8]
  (repeat' apply And.intro)
  all_goals (try omega)
  refine call_rule (caps := []) (hnext) [0] [0] 1 rfl rfl rfl rfl (by kernel_rfl) (by simp) ?_ ?_ (by simp) rfl (by simp) ⟨.inr ⟨rfl, 0, _, _, _, _, _, rfl, rfl, rfl, rfl, rfl⟩, trivial⟩ (by simp [tpO]) ?_
  ·simp [scal, rows, ints, tpO]
  ·simp [scal, rows, ints, tpO]
  simp (disch := omega) [ints, rows, scal, wr64, wr8, tpO]
  (repeat' first | apply hK | apply And.intro) <;> try first | (show okH _ _ _ = true; kernel_rfl) | omega | rfl | (simp <;> omega)
  by_cases hv1 : v = 1
  ·subst hv1
   refine awp_cond (b := true) (p := 2) (by simp [scal] <;> omega) ?_
   refine awp_R fun K hK => ?_
   simp (disch := omega) [ints, rows, scal, wr64, wr8]
   (repeat' apply And.intro)
   all_goals (try omega)
   refine call_rule (caps := []) (hlet2) [0] [0] 1 rfl rfl rfl rfl (by kernel_rfl) (by simp) ?_ ?_ (by simp) rfl (by simp) ⟨.inr ⟨rfl, 0, _, _, _, _, _, rfl, rfl, rfl, rfl, rfl⟩, trivial⟩ (by simp [tpO]) ?_
   ·simp [scal, rows, ints, tpO]
   ·simp [scal, rows, ints, tpO]
   simp (disch := omega) [ints, rows, scal, wr64, wr8, tpO]
   (repeat' apply And.intro)
   all_goals (try omega)
   refine call_rule (caps := []) (hord) [0] [0] 1 rfl rfl rfl rfl (by kernel_rfl) (by simp) ?_ ?_ (by simp) rfl (by simp) ⟨.inr ⟨rfl, 0, _, _, _, _, _, rfl, rfl, rfl, rfl, rfl⟩, trivial⟩ (by simp [tpO]) ?_
   ·simp [scal, rows, ints, tpO, dfT]
   ·simp [scal, rows, ints, tpO, dfT]
   simp (disch := omega) [ints, rows, scal, wr64, wr8, dfT, bools, tpO]
   (repeat' first | apply hK | apply And.intro) <;> try first | (show okH _ _ _ = true; kernel_rfl) | omega | rfl | (simp <;> omega)
   refine ⟨L2, n2, s2, bs2, nxt2, by omega, by omega, by omega, hD2, ?_⟩
   refine wk_list [(0, some 4000001)] rfl ?_ ?_ ?_ ?_
   all_goals try simp [ints, dfO2, dfT, bools, rows]
  ·have hv2 : ¬ (v : Int) = 1 := by omega
   refine awp_cond (b := false) (p := 2) (by simp [scal, hv2] <;> omega) ?_
   refine awp_skip ?_
   refine ⟨L, n, s, bs, nxt, by omega, by omega, by omega, hD, ?_⟩
   refine wk_list [(0, some 4000001)] rfl ?_ ?_ ?_ ?_
   all_goals try simp [ints, dfO2, dfT, bools, rows]
end Go.Proofs.YtnffigeofdagfaaDoor.M
