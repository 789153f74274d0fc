/-
  Walk in my logic: the law OmegaResumes.
-/
import Derived.Test.YtghnmmfkckneaaaZrav
import Derived.Test.YtghnmmfkckneaaaZrbj
import Derived.Test.YtghnmmfkckneaaaZraq
namespace Go.Proofs.Ytghnmmfkckneaaa.M
open Go.RowKit
set_option linter.unusedVariables false
set_option linter.unusedSimpArgs false

theorem vio_srD {tb : List (List Int)} {set : List Int} {a b : Tm} (h0 : huErr tb set a b = 0) {n : Nat} (hn1 : 1 ≤ n) (hn2 : n ≤ 1048576)
  (hd : (srD (asV (tabOf tb) tb.length (rngL (tabOf tb) set a b) a) (asV (tabOf tb) tb.length (rngL (tabOf tb) set a b) b) (rngL (tabOf tb) set a b) n).2.2.1 = true) :
  (vioP tb set a b n).2.1 = (srD (asV (tabOf tb) tb.length (rngL (tabOf tb) set a b) a) (asV (tabOf tb) tb.length (rngL (tabOf tb) set a b) b) (rngL (tabOf tb) set a b) n).1 ∧
  ((vioP tb set a b n).2.2 == 0) = (srD (asV (tabOf tb) tb.length (rngL (tabOf tb) set a b) a) (asV (tabOf tb) tb.length (rngL (tabOf tb) set a b) b) (rngL (tabOf tb) set a b) n).2.1 := by
 unfold vioP vioR
 generalize asV (tabOf tb) tb.length (rngL (tabOf tb) set a b) a = va at hd ⊢
 generalize asV (tabOf tb) tb.length (rngL (tabOf tb) set a b) b = vb at hd ⊢
 generalize rngL (tabOf tb) set a b = R at hd ⊢
 rw [if_neg (by rw [h0]; decide), if_neg (by omega)]
 unfold srD at hd ⊢
 by_cases he : empB R = true
 ·rw [if_pos he, if_pos he]
  exact ⟨rfl, rfl⟩
 rw [if_neg he] at hd ⊢
 rw [if_neg he, Int.toNat_natCast]
 generalize runH va vb R n 0 (List.replicate R.length 0) = y at hd ⊢
 obtain ⟨s, f, d, N⟩ := y
 simp only at hd ⊢
 cases f with
 | true => rw [if_pos rfl]; exact ⟨rfl, rfl⟩
 | false => rw [if_neg (fun h => Bool.noConfusion h), if_pos hd]; exact ⟨rfl, rfl⟩
theorem srD_two {v1 v2 : List Nat → Nat} {R : List (List Int)} {B C : Nat} (hB : (srD v1 v2 R B).2.2.1 = true) (hC : (srD v1 v2 R C).2.2.1 = true) : srD v1 v2 R B = srD v1 v2 R C := by
 rcases Nat.le_total B C with h | h
 ·exact (srD_ge h hB).symm
 ·exact srD_ge h hC
def srB (q : Nat × Bool × Bool × List Nat) : AObj := srO (.t 0 (.sl 1 (idT q.2.2.2))) q.1 q.2.1 q.2.2.1
set_option maxRecDepth 100000 in
set_option maxHeartbeats 16000000 in
theorem omegaResumes_fn (l1 l2 : List Int) : FnA Try.prog 7 [.t 1 (ints l1), .t 1 (ints l2)] (.t 2 (.bool true)) := by
 have hnew := new_fn l1
 obtain ⟨xs, hxs⟩ : ∃ xs, xs = l1.take 80 := ⟨_, rfl⟩
 have hl : xs.length ≤ 80 := by rw [hxs]; simp; omega
 rw [← hxs] at hnew
 obtain ⟨res, H', ⟨tb, b, hTb, hb, rfl, rfl⟩, hT⟩ := table28_fn xs 0 9 (by omega) hl (by omega)
 obtain ⟨v1, hi0, htb0, htb⟩ := hTb.ok (by omega) (by omega)
 obtain ⟨res, H', ⟨u, v, b1, hu, hv, hb1, rfl, rfl⟩, hI⟩ := identity28_fn xs b hb hl
 have hAll := all28_fn tb (by omega)
 obtain ⟨set, hset⟩ : ∃ set, set = allL tb.length := ⟨_, rfl⟩
 have hE0 := huErr_all v1 hi0 ⟨hu, hv⟩
 rw [← hset] at hAll hE0
 have hsl : set.length ≤ 100000 := by rw [hset, allL_size]; omega
 have hVio := violated_fn tb set u v hsl 1000
 have hBeg := begin_fn tb set u v hsl hE0
 have hAdv := fun B n hB h1 h2 => advance_fn tb set u v hsl hE0 B n hB h1 h2
 have hvs := fun hd => vio_srD (tb := tb) (set := set) (a := u) (b := v) hE0 (n := 1000) (by decide) (by decide) hd
 have hok := fun B => srD_ok (v1 := asV (tabOf tb) tb.length (rngL (tabOf tb) set u v) u) (v2 := asV (tabOf tb) tb.length (rngL (tabOf tb) set u v) v) (R := rngL (tabOf tb) set u v) B
 have htwo := fun B C h1 h2 => srD_two (v1 := asV (tabOf tb) tb.length (rngL (tabOf tb) set u v) u) (v2 := asV (tabOf tb) tb.length (rngL (tabOf tb) set u v) v) (R := rngL (tabOf tb) set u v) (B := B) (C := C) h1 h2
 have hge := fun B C h1 h2 => srD_ge (v1 := asV (tabOf tb) tb.length (rngL (tabOf tb) set u v) u) (v2 := asV (tabOf tb) tb.length (rngL (tabOf tb) set u v) v) (R := rngL (tabOf tb) set u v) (B := B) (C := C) h1 h2
 have hz := srD_0 (v1 := asV (tabOf tb) tb.length (rngL (tabOf tb) set u v) u) (v2 := asV (tabOf tb) tb.length (rngL (tabOf tb) set u v) v) (R := rngL (tabOf tb) set u v)
 have hRl := rngL_len (tabOf tb) set u v
 have hgu := gr_6 u (val_ok hu).1
 have hgv := gr_6 v (val_ok hv).1
 generalize srD (asV (tabOf tb) tb.length (rngL (tabOf tb) set u v) u) (asV (tabOf tb) tb.length (rngL (tabOf tb) set u v) v) (rngL (tabOf tb) set u v) = S at hAdv hvs hok htwo hge hz
 generalize rngL (tabOf tb) set u v = R at hBeg hok hz hRl
 have hBeg : FnA Try.prog 32 [.t 1 (rows tb), .t 0 (ints set), idV 0 u v] (.tup [srQ 1 (S 0), .t 2 (.int .i64 0)]) := by rw [hz]; exact hBeg
 clear hz
 rw [show ((1000 : Nat) : Int) = 1000 from rfl] at hvs
 generalize vioP tb set u v 1000 = vio at hVio hvs
 obtain ⟨vw, vs, ve⟩ := vio
 simp only at hvs
 refine fn_intro Try.func7 rfl (by simp [Try.f7]) ?_
 rw [show Try.f7.ntmps = 119 from rfl, show Try.f7.results = #[.tmp 4] from rfl]
 refine awp_seqR fun K hK => ?_
 simp (disch := omega) [ints, rows, scal, wr64, wr8]
 and_intros <;> try first | apply hK | omega | rfl | simp <;> omega
 refine awp_seqR fun K hK => ?_
 simp (disch := omega) [ints, rows, scal, wr64, wr8]
 (repeat' apply And.intro)
 all_goals (try omega)
 refine call_rule (caps := []) (hnew) [] [2000000] 1 rfl rfl rfl rfl (by kernel_rfl) (by simp) ?_ ?_ (by simp) rfl (by simp) ⟨.inl ⟨by omega, by omega⟩, trivial⟩ (by simp [tpO]) ?_
 ·simp [scal, rows, ints, tpO]
 ·trivial
 simp (disch := omega) [ints, rows, scal, wr64, wr8, tpO]
 and_intros <;> try first | apply hK | omega | rfl | simp <;> omega
 refine awp_weak (σ' := mkS [(1, .t 1 (ints l2)), (5, .ptr 0 0 2)] [(0, tpO 1 xs 0)] 1 119 [.any, .any]) ?_ ?_
 ·refine wk_list [(0, some 2000000)] rfl ?_ ?_ ?_ ?_
  all_goals try simp [ints, tpO, scal, ints]
 refine awp_seqR fun K hK => ?_
 simp (disch := omega) [ints, rows, scal, wr64, wr8]
 (repeat' apply And.intro)
 all_goals (try omega)
 refine call_rule (caps := []) (hT) [0] [0] 1 rfl rfl rfl rfl (by kernel_rfl) (by simp) ?_ ?_ (by simp) rfl (by simp) ⟨.inr ⟨rfl, 0, _, _, _, _, _, rfl, rfl, rfl, rfl, rfl⟩, trivial⟩ (by simp [tpO]) ?_
 ·simp [scal, rows, ints, tpO]
 ·simp [scal, rows, ints, tpO]
 simp (disch := omega) [ints, rows, scal, wr64, wr8, tpO]
 (repeat' apply And.intro)
 all_goals (try omega)
 refine call_rule (caps := []) (hI) [0] [0] 1 rfl rfl rfl rfl (by kernel_rfl) (by simp) ?_ ?_ (by simp) rfl (by simp) ⟨.inr ⟨rfl, 0, _, _, _, _, _, rfl, rfl, rfl, rfl, rfl⟩, trivial⟩ (by simp [tpO]) ?_
 ·simp [scal, rows, ints, tpO, idV]
 ·simp [scal, rows, ints, tpO, idV]
 simp (disch := omega) [ints, rows, scal, wr64, wr8, tpO, idV, tsIdent]
 and_intros <;> try first | apply hK | omega | rfl | simp <;> omega
 refine awp_weak (σ' := mkS [(1, .t 1 (ints l2)), (6, .t 2 (rows tb)), (7, .ptr 0 0 6)] [(0, ibO u v)] 1 119 [.any, .any]) ?_ ?_
 ·refine wk_list [(0, some 4000001)] rfl ?_ ?_ ?_ ?_
  all_goals try simp [ints, tpO, ibO, rows, ints, idV]
 refine awp_seqD (by kernel_rfl) (fun K hK => ?_)
 simp (disch := omega) [ints, rows, scal, wr64, wr8, rows]
 (repeat' apply And.intro)
 all_goals (try omega)
 refine call_ruleD (caps := []) (hAll) [] [] 2 rfl rfl rfl rfl (by kernel_rfl) (by simp) ?_ trivial trivial rfl trivial trivial (by simp) ?_
 ·simp [scal, rows, ints, rows]
 simp (disch := omega) [ints, rows, scal, wr64, wr8, ibO, tsIdent]
 (repeat' apply And.intro)
 all_goals (try omega)
 refine call_ruleD (caps := []) (hBeg) [] [] 2 rfl rfl rfl rfl (by kernel_rfl) (by simp) ?_ trivial trivial rfl trivial trivial (by simp) ?_
 ·simp [scal, rows, ints, rows, ints, idV]
 simp (disch := omega) [ints, rows, scal, wr64, wr8, srQ, srV, tsSearch]
 (repeat' first | apply hK | apply And.intro) <;> try first | (show chkD _ _ = true; kernel_rfl) | omega | rfl | (simp <;> omega)
 have hA0 := hAdv 0 1000 (by decide) (by decide) (by decide)
 rw [Nat.zero_add, show ((1000 : Nat) : Int) = 1000 from rfl] at hA0
 refine awp_seqD (by kernel_rfl) (fun K hK => ?_)
 simp (disch := omega) [ints, rows, scal, wr64, wr8, rows]
 (repeat' apply And.intro)
 all_goals (try omega)
 refine call_ruleD (caps := []) (hAll) [] [] 2 rfl rfl rfl rfl (by kernel_rfl) (by simp) ?_ trivial trivial rfl trivial trivial (by simp) ?_
 ·simp [scal, rows, ints, rows]
 simp (disch := omega) [ints, rows, scal, wr64, wr8, ibO, tsIdent, tsSearch]
 (repeat' apply And.intro)
 all_goals (try omega)
 refine call_ruleD (caps := []) (hA0) [] [] 2 rfl rfl rfl rfl (by kernel_rfl) (by simp) ?_ trivial trivial rfl trivial trivial (by simp) ?_
 ·simp [scal, rows, ints, rows, ints, idV, srQ, srV]
 simp (disch := omega) [ints, rows, scal, wr64, wr8, srQ, srV, tsSearch]
 and_intros <;> try first | apply hK | (show chkD _ _ = true; kernel_rfl) | omega | rfl | simp <;> omega
 refine awp_weak (σ' := mkS [(1, .t 1 (ints l2)), (6, .t 2 (rows tb)), (7, .ptr 0 0 6), (8, .ptr 1 0 4), (9, .t 2 (.int .i64 0)), (10, .ptr 2 0 4), (11, .t 2 (.int .i64 0))] [(0, ibO u v), (1, srB (S 0)), (2, srB (S 1000))] 3 119 [.any, .any]) ?_ ?_
 ·refine wk_list [(0, some 0), (1, some 8000001), (2, some 20000001)] rfl ?_ ?_ ?_ ?_
  all_goals try simp [ints, ibO, rows, ints, idV, srB, srO, srQ, srV, tsSearch]
 refine awp_seq ?_
 cases hd1 : (S 1000).2.2.1 with
 | false =>
  refine awp_seqR fun K hK => ?_
  simp (disch := omega) [ints, rows, scal, wr64, wr8, srB, srO, hd1]
  and_intros <;> try first | apply hK | omega | rfl | simp <;> omega
  refine awp_cond (b := true) (p := 2) (by simp [scal] <;> omega) ?_
  refine awp_seqR fun K hK => ?_
  simp (disch := omega) [ints, rows, scal, wr64, wr8]
  (repeat' apply And.intro)
  all_goals (try omega)
  refine call_rule (caps := []) (known28_fn) [] [] 2 (by simp [scal, rows, ints]) rfl rfl rfl (by kernel_rfl) (by simp) ?_ trivial trivial rfl trivial trivial (by simp) ?_
  ·simp [scal, rows, ints]
  simp (disch := omega) [ints, rows, scal, wr64, wr8]
  and_intros <;> try first | apply hK | omega | rfl | simp <;> omega
  refine awp_ret ?_
  refine ⟨⟨.inr rfl, _, [], rfl, trivial, trivial, by simp, ?_⟩, by simp⟩
  simp
 | true =>
 obtain ⟨hv1, hv2⟩ := hvs hd1
 refine awp_seqR fun K hK => ?_
 simp (disch := omega) [ints, rows, scal, wr64, wr8, srB, srO, hd1]
 and_intros <;> try first | apply hK | omega | rfl | simp <;> omega
 refine awp_cond (b := false) (p := 2) (by simp [scal] <;> omega) ?_
 refine awp_skip ?_
 show awp _ _ _ _
 refine awp_seq ?_
 refine awp_seqR fun K hK => ?_
 simp (disch := omega) [ints, rows, scal, wr64, wr8]
 and_intros <;> try first | apply hK | omega | rfl | simp <;> omega
 refine awp_block ?_
 refine awp_loop (fun y : Nat × Nat => mkS [(1, .t 1 (ints l2)), (6, .t 2 (rows tb)), (7, .ptr 0 0 6), (8, .ptr 1 0 4), (10, .ptr 2 0 4), (12, .t 2 (.int .i64 y.1))] [(0, ibO u v), (1, srB (S y.2)), (2, srB (S 1000))] 3 119 [.any, .any]) (fun y => y.1 ≤ 1000 ∧ y.1 ≤ y.2 ∧ y.2 ≤ 41 * y.1) (fun y => 1000 - y.1) ?_ ?_
 ·refine ⟨(0, 0), ⟨by simp only; omega, by simp only; omega, by simp only; omega⟩, ?_⟩
  refine wk_list [(0, some 0), (1, some 1), (2, some 2)] rfl ?_ ?_ ?_ ?_
  all_goals try simp [ints, ibO, rows, ints, idV, srB, srO, hd1]
 rintro ⟨k, B⟩ ⟨hk, hkB, hBk⟩
 simp only at hk hkB hBk
 refine awp_seq ?_
 by_cases hcont : (S B).2.2.1 = false ∧ k < 1000
 ·obtain ⟨hdk, hkl⟩ := hcont
  refine awp_seqR fun K hK => ?_
  simp (disch := omega) [ints, rows, scal, wr64, wr8, srB, srO, hdk, hkl]
  and_intros <;> try first | apply hK | omega | rfl | simp <;> omega
  refine awp_cond (b := true) (p := 2) (by simp [scal, hkl] <;> omega) ?_
  refine awp_skip ?_
  show awp _ _ _ _
  refine awp_seq ?_
  refine awp_block ?_
  refine awp_seqR fun K hK => ?_
  simp (disch := omega) [ints, rows, scal, wr64, wr8]
  and_intros <;> try first | apply hK | omega | rfl | simp <;> omega
  refine awp_seq (awp_mono (Q := fun e σ => e = Exit.normal ∧ ∃ n : Nat, 1 ≤ n ∧ n ≤ 41 ∧ Wk σ (mkS [(1, .t 1 (ints l2)), (6, .t 2 (rows tb)), (7, .ptr 0 0 6), (8, .ptr 1 0 4), (10, .ptr 2 0 4), (12, .t 2 (.int .i64 k)), (13, .t 2 (.int .i64 n))] [(0, ibO u v), (1, srB (S B)), (2, srB (S 1000))] 3 119 [.any, .any])) ?_ ?_)
  ·by_cases hk2 : k < l2.length
   ·have hM := mod_fn l2[k] 40 (by omega)
    have hr := modI_in (x := l2[k]) (n := 40) (by omega)
    obtain ⟨m, hm⟩ : ∃ m : Nat, modI l2[k] 40 = (m : Int) := ⟨(modI l2[k] 40).toNat, by omega⟩
    rw [hm] at hM hr
    refine awp_seqR fun K hK => ?_
    simp (disch := omega) [ints, rows, scal, wr64, wr8, ints, hk2]
    and_intros <;> try first | apply hK | omega | rfl | simp <;> omega
    refine awp_cond (b := true) (p := 2) (by simp [scal, hk2] <;> omega) ?_
    refine awp_R fun K hK => ?_
    simp (disch := omega) [ints, rows, scal, wr64, wr8, ints, hk2]
    (repeat' apply And.intro)
    all_goals (try omega)
    refine call_rule (caps := []) (hM) [] [] 2 rfl rfl rfl rfl (by kernel_rfl) (by simp) ?_ trivial trivial rfl trivial trivial (by simp) ?_
    ·simp [scal, rows, ints]
    simp (disch := omega) [ints, rows, scal, wr64, wr8]
    (repeat' first | apply hK | apply And.intro) <;> try first | omega | rfl | (simp <;> omega)
    refine ⟨m + 1, by omega, by omega, ?_⟩
    refine wk_list [(0, some 0), (1, some 1), (2, some 2)] rfl ?_ ?_ ?_ ?_
    all_goals try simp [ints, ibO, rows, ints, idV, srB, srO]
    all_goals omega
   ·refine awp_seqR fun K hK => ?_
    simp (disch := omega) [ints, rows, scal, wr64, wr8, ints, hk2]
    and_intros <;> try first | apply hK | omega | rfl | simp <;> omega
    refine awp_cond (b := false) (p := 2) (by simp [scal, hk2] <;> omega) ?_
    refine awp_skip ?_
    refine ⟨rfl, 1, by omega, by omega, ?_⟩
    refine wk_list [(0, some 0), (1, some 1), (2, some 2)] rfl ?_ ?_ ?_ ?_
    all_goals try simp [ints, ibO, rows, ints, idV, srB, srO, hdk]
  rintro e σ ⟨rfl, n, hn1, hn2, hw⟩
  refine awp_weak hw ?_
  clear hw
  show awp _ _ _ _
  have hAn := hAdv B n (by omega) hn1 (by omega)
  refine awp_seqD (by kernel_rfl) (fun K hK => ?_)
  simp (disch := omega) [ints, rows, scal, wr64, wr8, rows]
  (repeat' apply And.intro)
  all_goals (try omega)
  refine call_ruleD (caps := []) (hAll) [] [] 2 rfl rfl rfl rfl (by kernel_rfl) (by simp) ?_ trivial trivial rfl trivial trivial (by simp) ?_
  ·simp [scal, rows, ints, rows]
  simp (disch := omega) [ints, rows, scal, wr64, wr8, ibO, tsIdent, tsSearch, srB, srO]
  (repeat' apply And.intro)
  all_goals (try omega)
  refine call_ruleD (caps := []) (hAn) [] [] 2 rfl rfl rfl rfl (by kernel_rfl) (by simp) ?_ trivial trivial rfl trivial trivial (by simp) ?_
  ·simp [scal, rows, ints, rows, ints, idV, srQ, srV]
  simp (disch := omega) [ints, rows, scal, wr64, wr8, srQ, srV, tsSearch, srB, srO]
  and_intros <;> try first | apply hK | (show chkD _ _ = true; kernel_rfl) | omega | rfl | simp <;> omega
  refine awp_seqR fun K hK => ?_
  simp (disch := omega) [ints, rows, scal, wr64, wr8]
  and_intros <;> try first | apply hK | omega | rfl | simp <;> omega
  refine awp_cond (b := false) (p := 2) (by simp [scal] <;> omega) ?_
  refine awp_skip ?_
  show awp _ _ _ _
  refine awp_R fun K hK => ?_
  simp (disch := omega) [ints, rows, scal, wr64, wr8]
  (repeat' first | apply hK | apply And.intro) <;> try first | omega | rfl | (simp <;> omega)
  refine ⟨(k + 1, B + n), ⟨by simp only; omega, by simp only; omega, by simp only; omega⟩, by simp only; omega, ?_⟩
  refine wk_list [(0, some 0), (1, some 1), (2, some 2)] rfl ?_ ?_ ?_ ?_
  all_goals try simp [ints, ibO, rows, ints, idV, srB, srO, srQ, srV]
 have hSe : S B = S 1000 := by
  cases hdk : (S B).2.2.1 with
  | true => exact htwo B 1000 hdk hd1
  | false => exact hge 1000 B (by have : ¬ k < 1000 := fun h => hcont ⟨hdk, h⟩; omega) hd1
 rw [hSe]
 have hNl := (hok 1000).1.len
 generalize S 1000 = x at hd1 hv1 hv2 hNl
 obtain ⟨st, fo, dn, N⟩ := x
 simp only at hd1 hv1 hv2 hNl
 subst hd1 hv1
 have hSS := sameS_fn N (by omega) vs fo true
 refine awp_seqR fun K hK => ?_
 simp (disch := omega) [ints, rows, scal, wr64, wr8, srB, srO]
 and_intros <;> try first | apply hK | omega | rfl | simp <;> omega
 refine awp_cond (b := false) (p := 2) (by simp [scal] <;> omega) ?_
 refine awp_exit ?_
 show awp _ _ _ _
 refine awp_seqD (by kernel_rfl) (fun K hK => ?_)
 simp (disch := omega) [ints, rows, scal, wr64, wr8, rows]
 (repeat' apply And.intro)
 all_goals (try omega)
 refine call_ruleD (caps := []) (hAll) [] [] 2 rfl rfl rfl rfl (by kernel_rfl) (by simp) ?_ trivial trivial rfl trivial trivial (by simp) ?_
 ·simp [scal, rows, ints, rows]
 simp (disch := omega) [ints, rows, scal, wr64, wr8, ibO, tsIdent]
 (repeat' apply And.intro)
 all_goals (try omega)
 refine call_ruleD (caps := []) (hVio) [] [] 2 rfl rfl rfl rfl (by kernel_rfl) (by simp) ?_ trivial trivial rfl trivial trivial (by simp) ?_
 ·simp [scal, rows, ints, rows, ints, idV]
 simp (disch := omega) [ints, rows, scal, wr64, wr8, vioV]
 and_intros <;> try first | apply hK | (show chkD _ _ = true; kernel_rfl) | omega | rfl | simp <;> omega
 refine awp_seqR fun K hK => ?_
 simp (disch := omega) [ints, rows, scal, wr64, wr8, srB, srO, tsSearch]
 (repeat' apply And.intro)
 all_goals (try omega)
 refine call_rule (caps := []) (hSS) [] [] 2 rfl rfl rfl rfl (by kernel_rfl) (by simp) ?_ trivial trivial rfl trivial trivial (by simp) ?_
 ·simp [scal, rows, ints, srV]
 simp (disch := omega) [ints, rows, scal, wr64, wr8, srB, srO, tsSearch, hv2]
 (repeat' apply And.intro)
 all_goals (try omega)
 refine call_rule (caps := []) (known28_fn) [] [] 2 (by simp [scal, rows, ints]) rfl rfl rfl (by kernel_rfl) (by simp) ?_ trivial trivial rfl trivial trivial (by simp) ?_
 ·simp [scal, rows, ints]
 simp (disch := omega) [ints, rows, scal, wr64, wr8]
 and_intros <;> try first | apply hK | omega | rfl | simp <;> omega
 refine awp_ret ?_
 refine ⟨⟨.inr rfl, _, [], rfl, trivial, trivial, by simp, ?_⟩, by simp⟩
 simp
end Go.Proofs.Ytghnmmfkckneaaa.M
