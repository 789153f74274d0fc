/-
  Walks in my logic: Minimal (semigroupref08).
  Walks in my logic: bits of numbers, Validate, Run, Accepts of automata, Valid of words, words of the tape.
  Walks in my logic: monomials: Validate, validList, those of the tape, the law's list.
  Monomials in plain Lean: what is left to read; the automata of at most three monomials of at most three letters over two letters have at most 512 states.
-/
import Derived.Test.YtnffigeofdagfaaDoorZoaq
import Derived.Test.YtnffigeofdagfaaDoorZoap
namespace Go.Proofs.YtnffigeofdagfaaDoor.M
open Go.RowKit
set_option linter.unusedVariables false
set_option linter.unusedSimpArgs false

set_option maxRecDepth 100000 in
set_option maxHeartbeats 4000000 in
theorem minimalX_fn {L n s : Nat} {bs : List Bool} {nxt : List (List Int)} (h : DfL L n s bs nxt) (hL : 1 ≤ L) (hL2 : L ≤ 6) (hn : n ≤ 512) : ∃ res, (∃ m bs' nx', MiX L n s bs nxt m bs' nx' ∧ res = dfT 2 L 0 bs' nx') ∧ FnS Tryd.prog 49 [dfT 0 L s bs nxt] [] res [] := by
 have hnl := h.nl
 have hbl := h.bl
 have hst := h.st
 have hn1 := h.n1
 have hrt := h.rt
 obtain ⟨res0, ⟨p, hC, rfl⟩, hcls⟩ := classes_fn h hL hL2 hn
 have hp := hC.ok
 have hps := natL_get (r := p) hst
 have hcn := cv_le p n
 refine fn_introE Tryd.func49 rfl (by simp [Tryd.f49]) ?_
 rw [show Tryd.f49.ntmps = 74 from rfl, show Tryd.f49.results = #[.cell 2 32] from rfl]
 refine awp_seqR fun K hK => ?_
 simp (maxSteps := 2000000) (disch := omega) [ints, rows, scal, wr64, wr8, dfT, bools]
 (repeat' first | apply hK | apply And.intro) <;> try first | (show okH _ _ _ = true; kernel_rfl) | omega | rfl | (simp <;> omega)
 refine awp_seqR fun K hK => ?_
 simp (maxSteps := 2000000) (disch := omega) [ints, rows, scal, wr64, wr8]
 (repeat' apply And.intro)
 all_goals (try omega)
 refine call_rule (caps := []) (hcls) [] [] 2 rfl rfl rfl rfl (by kernel_rfl) (by simp) ?_ trivial trivial rfl trivial trivial (by simp) ?_
 ·simp [scal, rows, ints, dfT, bools]
 simp (maxSteps := 2000000) (disch := omega) [ints, rows, scal, wr64, wr8]
 (repeat' first | apply hK | apply And.intro) <;> try first | (show okH _ _ _ = true; kernel_rfl) | omega | rfl | (simp <;> omega)
 refine awp_seqD (by kernel_rfl) (fun K hK => ?_)
 simp (maxSteps := 2000000) (disch := omega) [ints, rows, scal, wr64, wr8, natL, tab_map, hst]
 (repeat' first | apply hK | apply And.intro) <;> try first | (show chkD _ _ = true; kernel_rfl) | (show okH _ _ _ = true; kernel_rfl) | omega | rfl | (simp <;> omega)
 refine awp_seqR fun K hK => ?_
 simp (maxSteps := 2000000) (disch := omega) [ints, rows, scal, wr64, wr8]
 (repeat' first | apply hK | apply And.intro) <;> try first | (show okH _ _ _ = true; kernel_rfl) | omega | rfl | (simp <;> omega)
 refine awp_seq ?_
 refine awp_seqR fun K hK => ?_
 simp (maxSteps := 2000000) (disch := omega) [ints, rows, scal, wr64, wr8]
 (repeat' first | apply hK | apply And.intro) <;> try first | (show okH _ _ _ = true; kernel_rfl) | omega | rfl | (simp <;> omega)
 refine awp_block ?_
 refine awp_loop (fun y : Nat × List Bool × List (List Int) => mkS [(1, .ptr 0 0 4), (2, .ptr 1 0 4), (3, .t 2 (ints (natL n p))), (4, .ptr 2 0 4), (5, .t 2 (.int .i64 (cv p y.1))), (21, .t 2 (ints (natL n p))), (22, .t 2 (.int .i64 n)), (23, .t 2 (.int .i64 y.1))] [(0, .box 32 [.t 2 (.int .i64 L), .t 2 (.int .i64 s), .t 0 (bools bs), .t 0 (rows nxt)]), (1, .box 32 [.any, .any, .any, .any]), (2, .box 32 [.t 2 (.int .i64 L), .t 2 (.int .i64 (p s)), .own 3 y.2.1.length, .own 4 y.2.2.length]), (3, .row 4 1 2 (y.2.1.map .bool)), (4, .row 22 1 2 (y.2.2.map ints))] 5 74 [.any]) (fun y => y.1 ≤ n ∧ QuI L bs nxt p y.2.1 y.2.2 y.1) (fun y => n - y.1) ?_ ?_
 ·refine ⟨(0, [], []), ⟨by simp, QuI.start⟩, ?_⟩
  refine wk_list [(0, some 0), (1, some 1000000), (2, some 13000000), (3, none), (4, none)] rfl ?_ ?_ ?_ ?_
  all_goals try simp [ints, rows, bools, dfT, natL, tab_map, cv]
 ·rintro ⟨q, bs', nx'⟩ ⟨hq, hQ⟩
  simp only at hq hQ
  have hbl' := hQ.bl
  have hnl' := hQ.nl
  have hcq := cv_le p q
  refine awp_seqR fun K hK => ?_
  simp (maxSteps := 2000000) (disch := omega) [ints, rows, scal, wr64, wr8]
  (repeat' first | apply hK | apply And.intro) <;> try first | (show okH _ _ _ = true; kernel_rfl) | omega | rfl | (simp <;> omega)
  refine awp_seq ?_
  by_cases hqn : q < n
  ·have hqx : q < nxt.length := by omega
   have hqb : q < bs.length := by omega
   obtain ⟨hrl, -⟩ := h.row nxt[q] (by simp)
   have hcs : cv p (q + 1) = if p q = cv p q then cv p q + 1 else cv p q := rfl
   refine awp_cond (b := true) (p := 2) (by simp [scal, hqn] <;> omega) ?_
   refine awp_skip ?_
   show awp _ _ _ _
   refine awp_seq ?_
   refine awp_block ?_
   refine awp_seqR fun K hK => ?_
   simp (maxSteps := 2000000) (disch := omega) [ints, rows, scal, wr64, wr8, natL, tab_map, hqn]
   (repeat' first | apply hK | apply And.intro) <;> try first | (show okH _ _ _ = true; kernel_rfl) | omega | rfl | (simp <;> omega)
   refine awp_seq ?_
   by_cases hpq : p q = cv p q
   ·rw [if_pos hpq] at hcs
    have hpi : (p q : Int) = (cv p q : Int) := by omega
    refine awp_seqR fun K hK => ?_
    simp (maxSteps := 2000000) (disch := omega) [ints, rows, scal, wr64, wr8, hpi]
    (repeat' first | apply hK | apply And.intro) <;> try first | (show okH _ _ _ = true; kernel_rfl) | omega | rfl | (simp <;> omega)
    refine awp_cond (b := false) (p := 2) (by simp [scal] <;> omega) ?_
    refine awp_skip ?_
    show awp _ _ _ _
    refine awp_seqR fun K hK => ?_
    simp (maxSteps := 2000000) (disch := omega) [ints, rows, scal, wr64, wr8]
    (repeat' first | apply hK | apply And.intro) <;> try first | (show okH _ _ _ = true; kernel_rfl) | omega | rfl | (simp <;> omega)
    refine awp_seqR fun K hK => ?_
    simp (maxSteps := 2000000) (disch := omega) [ints, rows, scal, wr64, wr8]
    (repeat' first | apply hK | apply And.intro) <;> try first | (show okH _ _ _ = true; kernel_rfl) | omega | rfl | (simp <;> omega)
    refine awp_seq ?_
    refine awp_seqR fun K hK => ?_
    simp (maxSteps := 2000000) (disch := omega) [ints, rows, scal, wr64, wr8, hqx, hrl]
    (repeat' first | apply hK | apply And.intro) <;> try first | (show okH _ _ _ = true; kernel_rfl) | omega | rfl | (simp <;> omega)
    refine awp_block ?_
    refine awp_loop (fun y : Nat × List Int => mkS [(1, .ptr 0 0 4), (2, .ptr 1 0 4), (3, .t 2 (ints (natL n p))), (4, .ptr 2 0 4), (5, .t 2 (.int .i64 ((cv p q : Int) + 1))), (6, .t 2 (.int .i64 q)), (8, .own 5 y.1), (21, .t 2 (ints (natL n p))), (22, .t 2 (.int .i64 n)), (23, .t 2 (.int .i64 q)), (37, .t 0 (ints nxt[q])), (38, .t 2 (.int .i64 L)), (39, .t 2 (.int .i64 y.1))] [(0, .box 32 [.t 2 (.int .i64 L), .t 2 (.int .i64 s), .t 0 (bools bs), .t 0 (rows nxt)]), (1, .box 32 [.any, .any, .any, .any]), (2, .box 32 [.t 2 (.int .i64 L), .t 2 (.int .i64 (p s)), .own 3 bs'.length, .own 4 nx'.length]), (3, .row 4 1 2 (bs'.map .bool)), (4, .row 22 1 2 (nx'.map ints)), (5, .row 3 1 2 (y.2.map (.int .i64)))] 6 74 [.any]) (fun y => y.1 ≤ L ∧ y.2.length = y.1 ∧ y.2 = tab y.1 fun x => (p (stepR nxt q x) : Int)) (fun y => L - y.1) ?_ ?_
    ·refine ⟨(0, []), ⟨by simp, rfl, rfl⟩, ?_⟩
     refine wk_list [(0, some 0), (1, some 1), (2, some 2), (3, some 3), (4, some 4), (5, none)] rfl ?_ ?_ ?_ ?_
     all_goals try simp [ints, rows, bools, natL, tab_map]
    ·rintro ⟨x, r⟩ ⟨hx, hrl2, hrv⟩
     simp only at hx hrl2 hrv
     refine awp_seqR fun K hK => ?_
     simp (maxSteps := 2000000) (disch := omega) [ints, rows, scal, wr64, wr8]
     (repeat' first | apply hK | apply And.intro) <;> try first | (show okH _ _ _ = true; kernel_rfl) | omega | rfl | (simp <;> omega)
     refine awp_seq ?_
     by_cases hxl : x < L
     ·obtain ⟨s1, s2, s3, s4⟩ := hrt.step hqn hxl
      have hpv := hp.lt s1 s1
      refine awp_cond (b := true) (p := 2) (by simp [scal, hxl] <;> omega) ?_
      refine awp_skip ?_
      show awp _ _ _ _
      refine awp_seq ?_
      refine awp_block ?_
      refine awp_seqR fun K hK => ?_
      simp (maxSteps := 2000000) (disch := omega) [ints, rows, scal, wr64, wr8, s3, s4]
      (repeat' first | apply hK | apply And.intro) <;> try first | (show okH _ _ _ = true; kernel_rfl) | omega | rfl | (simp <;> omega)
      refine awp_R fun K hK => ?_
      simp (maxSteps := 2000000) (disch := omega) [ints, rows, scal, wr64, wr8, natL, tab_map, s1]
      (repeat' first | apply hK | apply And.intro) <;> try first | (show okH _ _ _ = true; kernel_rfl) | omega | rfl | (simp <;> omega)
      show awp _ _ _ _
      refine awp_R fun K hK => ?_
      simp (maxSteps := 2000000) (disch := omega) [ints, rows, scal, wr64, wr8]
      (repeat' first | apply hK | apply And.intro) <;> try first | (show okH _ _ _ = true; kernel_rfl) | omega | rfl | (simp <;> omega)
      refine ⟨(x + 1, r ++ [(p (stepR nxt q x) : Int)]), ⟨by omega, by simp [hrl2], by rw [hrv, tab_succ]⟩, by simp; omega, ?_⟩
      ·refine wk_list [(0, some 0), (1, some 1), (2, some 2), (3, some 3), (4, some 4), (5, some 5)] rfl ?_ ?_ ?_ ?_
       all_goals try simp [ints, rows, bools, hrl2, natL, tab_map]
     ·have hxe : x = L := by omega
      refine awp_cond (b := false) (p := 2) (by simp [scal, hxl] <;> omega) ?_
      refine awp_exit ?_
      show awp _ _ _ _
      refine awp_RD (by kernel_rfl) (fun K hK => ?_)
      simp (maxSteps := 2000000) (disch := omega) [ints, rows, scal, wr64, wr8, hqb]
      (repeat' first | apply hK | apply And.intro) <;> try first | (show chkD _ _ = true; kernel_rfl) | (show okH _ _ _ = true; kernel_rfl) | omega | rfl | (simp <;> omega)
      show awp _ _ _ _
      refine awp_R fun K hK => ?_
      simp (maxSteps := 2000000) (disch := omega) [ints, rows, scal, wr64, wr8]
      (repeat' first | apply hK | apply And.intro) <;> try first | (show okH _ _ _ = true; kernel_rfl) | omega | rfl | (simp <;> omega)
      refine ⟨(q + 1, bs' ++ [bs[q]], nx' ++ [r]), ⟨by omega, by rw [hrv, hxe]; exact hQ.new hpq (List.getElem?_eq_getElem hqb)⟩, by simp; omega, ?_⟩
      ·refine wk_list [(0, some 0), (1, some 1), (2, some 2), (3, some 3), (4, some 4)] rfl ?_ ?_ ?_ ?_
       all_goals try simp [ints, rows, bools, natL, tab_map, hcs]
   ·rw [if_neg hpq] at hcs
    have hpi : ¬ (p q : Int) = (cv p q : Int) := by omega
    refine awp_seqR fun K hK => ?_
    simp (maxSteps := 2000000) (disch := omega) [ints, rows, scal, wr64, wr8, hpi]
    (repeat' first | apply hK | apply And.intro) <;> try first | (show okH _ _ _ = true; kernel_rfl) | omega | rfl | (simp <;> omega)
    refine awp_cond (b := true) (p := 2) (by simp [scal, hpi] <;> omega) ?_
    refine awp_exit ?_
    show awp _ _ _ _
    refine awp_R fun K hK => ?_
    simp (maxSteps := 2000000) (disch := omega) [ints, rows, scal, wr64, wr8]
    (repeat' first | apply hK | apply And.intro) <;> try first | (show okH _ _ _ = true; kernel_rfl) | omega | rfl | (simp <;> omega)
    refine ⟨(q + 1, bs', nx'), ⟨by omega, hQ.old hpq⟩, by simp; omega, ?_⟩
    refine wk_list [(0, some 0), (1, some 1), (2, some 2), (3, some 3), (4, some 4)] rfl ?_ ?_ ?_ ?_
    all_goals try simp [ints, rows, bools, natL, tab_map, hcs]
  ·have hqe : q = n := by omega
   subst hqe
   have hc1 : 1 ≤ cv p q := by
    have h1 := cv_mono p (show 1 ≤ q from hn1)
    have h2 := hp 0 (by omega)
    have h3 : cv p 1 = if p 0 = cv p 0 then cv p 0 + 1 else cv p 0 := rfl
    have h4 : cv p 0 = 0 := rfl
    rw [if_pos (by omega)] at h3
    omega
   have hD : DfL L (cv p q) (p s) bs' nx' := (hQ.fin h hC).1 s hst
   obtain ⟨res2, ⟨ss, bs2, nx2, pl, hE, hF, rfl⟩, htr⟩ := trimX_fn hD hL hL2 (by omega)
   have hX : MiX L q s bs nxt ss.length bs2 nx2 := ⟨Nat.le_trans hE.len hcn, .of (by omega) hE hF (hQ.dis h hC), fun w hw => by rw [hE.fin.2 w hw, (hQ.fin h hC).2 w hw s hst]⟩
   refine awp_cond (b := false) (p := 2) (by simp [scal, hqn] <;> omega) ?_
   refine awp_exit ?_
   show awp _ _ _ _
   refine awp_seqR fun K hK => ?_
   simp (maxSteps := 2000000) (disch := omega) [ints, rows, scal, wr64, wr8]
   (repeat' apply And.intro)
   all_goals (try omega)
   refine call_rule (caps := []) (htr) [] [] 2 rfl rfl rfl rfl (by kernel_rfl) (by simp) ?_ trivial trivial rfl trivial trivial (by simp) ?_
   ·simp [scal, rows, ints, dfT, bools]
   simp (maxSteps := 2000000) (disch := omega) [ints, rows, scal, wr64, wr8, dfT, bools]
   (repeat' first | apply hK | apply And.intro) <;> try first | (show okH _ _ _ = true; kernel_rfl) | omega | rfl | (simp <;> omega)
   refine awp_seqR fun K hK => ?_
   simp (maxSteps := 2000000) (disch := omega) [ints, rows, scal, wr64, wr8]
   (repeat' first | apply hK | apply And.intro) <;> try first | (show okH _ _ _ = true; kernel_rfl) | omega | rfl | (simp <;> omega)
   refine awp_ret ?_
   refine ⟨_, ⟨_, bs2, nx2, hX, rfl⟩, ?_⟩
   refine ⟨⟨.inr rfl, _, [], (by simp; rfl), trivial, trivial, by simp [dfT, bools], ?_⟩, by simp [dfT, bools]⟩
   simp [ints, rows, dfT, bools]

set_option linter.unusedSimpArgs false

theorem wrN {x : Nat} (hx : x < 18446744073709551616) : IntKind.u64.wrap (x : Int) = (x : Int) := by
 rw [IntKind.wrap_u64]; omega
theorem bvN {x : Nat} (hx : x < 18446744073709551616) : (BitVec.ofInt IntKind.u64.bits (x : Int)).toNat = x := by
 show (BitVec.ofInt 64 (x : Int)).toNat = x
 rw [BitVec.toNat_ofInt]; omega
theorem andN {x y : Nat} (hx : x < 18446744073709551616) (hy : y < 18446744073709551616) : andI .u64 (x : Int) (y : Int) = ((x &&& y : Nat) : Int) := by
 unfold andI
 rw [BitVec.toNat_and, bvN hx, bvN hy, wrN (Nat.and_lt_two_pow (n := 64) _ hy)]
theorem orN {x y : Nat} (hx : x < 18446744073709551616) (hy : y < 18446744073709551616) : orI .u64 (x : Int) (y : Int) = ((x ||| y : Nat) : Int) := by
 unfold orI
 rw [BitVec.toNat_or, bvN hx, bvN hy, wrN (Nat.or_lt_two_pow (n := 64) hx hy)]
theorem shlN {x k : Nat} (h : x * 2 ^ k < 18446744073709551616) (hk : k ≤ 64) : shlI .u64 (x : Int) (k : Int) = ((x * 2 ^ k : Nat) : Int) := by
 unfold shlI
 have e : min (k : Int).toNat IntKind.u64.bits = k := by
  show min (k : Int).toNat 64 = k
  omega
 rw [e, show ((x : Int) * 2 ^ k) = ((x * 2 ^ k : Nat) : Int) by push_cast; rfl, wrN h]
theorem shrN {kd : IntKind} {x k : Nat} (hk : k ≤ kd.bits) : shrI kd (x : Int) (k : Int) = ((x / 2 ^ k : Nat) : Int) := by
 unfold shrI
 have e : min (k : Int).toNat kd.bits = k := by omega
 have h0 : (0 : Int) ≤ 2 ^ k := Int.pow_nonneg (by decide)
 rw [e, Int.fdiv_eq_ediv_of_nonneg _ h0]
 push_cast; rfl
def nI (xs : List Nat) : List Int := xs.map fun (x : Nat) => (x : Int)
@[simp] theorem nI_len (xs : List Nat) : (nI xs).length = xs.length := by simp [nI]
theorem nI_get {xs : List Nat} {k : Nat} (h : k < xs.length) : (nI xs)[k]? = some (xs[k] : Int) := by simp [nI, h]
theorem nI_snoc (xs : List Nat) (x : Nat) : nI (xs ++ [x]) = nI xs ++ [(x : Int)] := by simp [nI]
set_option maxRecDepth 100000 in
set_option maxHeartbeats 4000000 in
theorem dvalidate_fn {L n s : Nat} {bs : List Bool} {nxt : List (List Int)} (h : DfL L n s bs nxt) (hL : 1 ≤ L) (hL2 : L ≤ 6) (hn : n ≤ 512) : FnA Tryd.prog 44 [dfT 0 L s bs nxt] (.t 2 (.int .i64 0)) := by
 have hn1 := h.n1
 have hst := h.st
 have hbl := h.bl
 have hnl := h.nl
 refine fn_intro Tryd.func44 rfl (by simp [Tryd.f44]) ?_
 rw [show Tryd.f44.ntmps = 64 from rfl, show Tryd.f44.results = #[.tmp 2] from rfl]
 refine awp_seqR fun K hK => ?_
 simp (maxSteps := 2000000) (disch := omega) [ints, rows, scal, wr64, wr8, dfT, bools]
 (repeat' first | apply hK | apply And.intro) <;> try first | (show okH _ _ _ = true; kernel_rfl) | omega | rfl | (simp <;> omega)
 refine awp_seq ?_
 have dL1 : ¬ (L : Int) < 1 := by omega
 have dL2 : ¬ (6 : Int) < L := by omega
 refine awp_seqR fun K hK => ?_
 simp (maxSteps := 2000000) (disch := omega) [ints, rows, scal, wr64, wr8, dL1, dL2]
 (repeat' first | apply hK | apply And.intro) <;> try first | (show okH _ _ _ = true; kernel_rfl) | omega | rfl | (simp <;> omega)
 refine awp_cond (b := false) (p := 2) (by simp [scal] <;> omega) ?_
 refine awp_skip ?_
 show awp _ _ _ _
 refine awp_seqR fun K hK => ?_
 simp (maxSteps := 2000000) (disch := omega) [ints, rows, scal, wr64, wr8, hbl]
 (repeat' first | apply hK | apply And.intro) <;> try first | (show okH _ _ _ = true; kernel_rfl) | omega | rfl | (simp <;> omega)
 refine awp_seq ?_
 refine awp_seqR fun K hK => ?_
 simp (maxSteps := 2000000) (disch := omega) [ints, rows, scal, wr64, wr8]
 (repeat' first | apply hK | apply And.intro) <;> try first | (show okH _ _ _ = true; kernel_rfl) | omega | rfl | (simp <;> omega)
 refine awp_cond (b := false) (p := 2) (by simp [scal] <;> omega) ?_
 refine awp_skip ?_
 show awp _ _ _ _
 refine awp_seq ?_
 have d4 : decide ((s : Int) ≥ n) = false := by simp; omega
 have d3 : decide ((s : Int) < 0) = false := by simp
 refine awp_seqR fun K hK => ?_
 simp (maxSteps := 2000000) (disch := omega) [ints, rows, scal, wr64, wr8, d3, d4, hnl]
 (repeat' first | apply hK | apply And.intro) <;> try first | (show okH _ _ _ = true; kernel_rfl) | omega | rfl | (simp <;> omega)
 refine awp_cond (b := false) (p := 2) (by simp [scal] <;> omega) ?_
 refine awp_skip ?_
 show awp _ _ _ _
 show awp _ _ _ _
 refine awp_seq ?_
 refine awp_seqR fun K hK => ?_
 simp (maxSteps := 2000000) (disch := omega) [ints, rows, scal, wr64, wr8]
 (repeat' first | apply hK | apply And.intro) <;> try first | (show okH _ _ _ = true; kernel_rfl) | omega | rfl | (simp <;> omega)
 refine awp_block ?_
 refine awp_loop (fun y : Nat => mkS [(1, .ptr 0 0 4), (3, .t 2 (.int .i64 n)), (38, .t 0 (rows nxt)), (39, .t 2 (.int .i64 n)), (40, .t 2 (.int .i64 y))] [(0, .box 32 [.t 2 (.int .i64 L), .t 2 (.int .i64 s), .t 0 (bools bs), .t 0 (rows nxt)])] 1 64 [.any]) (fun y => y ≤ n) (fun y => n - y) ?_ ?_
 ·refine ⟨0, by omega, ?_⟩
  refine wk_list [(0, some 0)] rfl ?_ ?_ ?_ ?_
  all_goals try simp [ints, rows, bools, hbl, hnl, dfT]
 ·intro q hq
  refine awp_seqR fun K hK => ?_
  simp (maxSteps := 2000000) (disch := omega) [ints, rows, scal, wr64, wr8]
  (repeat' first | apply hK | apply And.intro) <;> try first | (show okH _ _ _ = true; kernel_rfl) | omega | rfl | (simp <;> omega)
  refine awp_seq ?_
  by_cases hqn : q < n
  ·have hqx : q < nxt.length := by omega
   obtain ⟨hrl, hrv⟩ := h.row nxt[q] (by simp)
   refine awp_cond (b := true) (p := 2) (by simp [scal, hqn] <;> omega) ?_
   refine awp_skip ?_
   show awp _ _ _ _
   refine awp_seq ?_
   refine awp_block ?_
   refine awp_seqR fun K hK => ?_
   simp (maxSteps := 2000000) (disch := omega) [ints, rows, scal, wr64, wr8, hqx]
   (repeat' first | apply hK | apply And.intro) <;> try first | (show okH _ _ _ = true; kernel_rfl) | omega | rfl | (simp <;> omega)
   refine awp_seq ?_
   refine awp_seqR fun K hK => ?_
   simp (maxSteps := 2000000) (disch := omega) [ints, rows, scal, wr64, wr8, hrl]
   (repeat' first | apply hK | apply And.intro) <;> try first | (show okH _ _ _ = true; kernel_rfl) | omega | rfl | (simp <;> omega)
   refine awp_cond (b := false) (p := 2) (by simp [scal] <;> omega) ?_
   refine awp_skip ?_
   show awp _ _ _ _
   refine awp_seqR fun K hK => ?_
   simp (maxSteps := 2000000) (disch := omega) [ints, rows, scal, wr64, wr8, hrl]
   (repeat' first | apply hK | apply And.intro) <;> try first | (show okH _ _ _ = true; kernel_rfl) | omega | rfl | (simp <;> omega)
   refine awp_block ?_
   refine awp_loop (fun y : Nat => mkS [(1, .ptr 0 0 4), (3, .t 2 (.int .i64 n)), (38, .t 0 (rows nxt)), (39, .t 2 (.int .i64 n)), (40, .t 2 (.int .i64 q)), (49, .t 0 (ints nxt[q])), (50, .t 2 (.int .i64 L)), (51, .t 2 (.int .i64 y))] [(0, .box 32 [.t 2 (.int .i64 L), .t 2 (.int .i64 s), .t 0 (bools bs), .t 0 (rows nxt)])] 1 64 [.any]) (fun y => y ≤ L) (fun y => L - y) ?_ ?_
   ·refine ⟨0, by omega, ?_⟩
    refine wk_list [(0, some 0)] rfl ?_ ?_ ?_ ?_
    all_goals try simp [ints, rows, bools]
   ·intro x hx
    refine awp_seqR fun K hK => ?_
    simp (maxSteps := 2000000) (disch := omega) [ints, rows, scal, wr64, wr8]
    (repeat' first | apply hK | apply And.intro) <;> try first | (show okH _ _ _ = true; kernel_rfl) | omega | rfl | (simp <;> omega)
    refine awp_seq ?_
    by_cases hxl : x < L
    ·have hxr : x < nxt[q].length := by omega
     obtain ⟨e1, e2⟩ := hrv nxt[q][x] (by simp)
     have e3 : ¬ nxt[q][x] < 0 := by omega
     have e4 : ¬ (n : Int) ≤ nxt[q][x] := by omega
     refine awp_cond (b := true) (p := 2) (by simp [scal, hxl] <;> omega) ?_
     refine awp_skip ?_
     show awp _ _ _ _
     refine awp_seq ?_
     refine awp_block ?_
     refine awp_seqR fun K hK => ?_
     simp (maxSteps := 2000000) (disch := omega) [ints, rows, scal, wr64, wr8, hxr]
     (repeat' first | apply hK | apply And.intro) <;> try first | (show okH _ _ _ = true; kernel_rfl) | omega | rfl | (simp <;> omega)
     refine awp_seqR fun K hK => ?_
     simp (maxSteps := 2000000) (disch := omega) [ints, rows, scal, wr64, wr8, e3, e4]
     (repeat' first | apply hK | apply And.intro) <;> try first | (show okH _ _ _ = true; kernel_rfl) | omega | rfl | (simp <;> omega)
     refine awp_cond (b := false) (p := 2) (by simp [scal] <;> omega) ?_
     refine awp_skip ?_
     show awp _ _ _ _
     refine awp_R fun K hK => ?_
     simp (maxSteps := 2000000) (disch := omega) [ints, rows, scal, wr64, wr8]
     (repeat' first | apply hK | apply And.intro) <;> try first | (show okH _ _ _ = true; kernel_rfl) | omega | rfl | (simp <;> omega)
     refine ⟨x + 1, by omega, by omega, ?_⟩
     refine wk_list [(0, some 0)] rfl ?_ ?_ ?_ ?_
     all_goals try simp [ints, rows, bools]
    ·refine awp_cond (b := false) (p := 2) (by simp [scal, hxl] <;> omega) ?_
     refine awp_exit ?_
     show awp _ _ _ _
     refine awp_R fun K hK => ?_
     simp (maxSteps := 2000000) (disch := omega) [ints, rows, scal, wr64, wr8]
     (repeat' first | apply hK | apply And.intro) <;> try first | (show okH _ _ _ = true; kernel_rfl) | omega | rfl | (simp <;> omega)
     refine ⟨q + 1, by omega, by omega, ?_⟩
     refine wk_list [(0, some 0)] rfl ?_ ?_ ?_ ?_
     all_goals try simp [ints, rows, bools]
  ·refine awp_cond (b := false) (p := 2) (by simp [scal, hqn] <;> omega) ?_
   refine awp_exit ?_
   show awp _ _ _ _
   refine awp_seqR fun K hK => ?_
   simp (maxSteps := 2000000) (disch := omega) [ints, rows, scal, wr64, wr8]
   (repeat' first | apply hK | apply And.intro) <;> try first | (show okH _ _ _ = true; kernel_rfl) | omega | rfl | (simp <;> omega)
   refine awp_ret ?_
   refine ⟨⟨.inr rfl, _, [], rfl, trivial, trivial, by simp [dfT], ?_⟩, by simp [dfT]⟩
   simp [dfT]


set_option linter.unusedSimpArgs false

abbrev Mo := List Nat × List Nat
def moV (p : Nat) (m : Mo) : AV := .agg [.t p (ints (nI m.1)), .t p (ints (nI m.2))]
def mosC (ms : List Mo) : List T := ms.flatMap fun m => [ints (nI m.1), ints (nI m.2)]
@[simp] theorem mosC_len (ms : List Mo) : (mosC ms).length = ms.length * 2 := by
 unfold mosC
 induction ms with
 | nil => rfl
 | cons m r ih => simp only [List.flatMap_cons, List.length_append, ih]; simp; omega
theorem mosC_snoc (ms : List Mo) (m : Mo) : mosC (ms ++ [m]) = mosC ms ++ [ints (nI m.1), ints (nI m.2)] := by simp [mosC]
theorem mos_drop : ∀ (ms : List Mo) (k : Nat), (mosC ms).drop (k * 2) = mosC (ms.drop k)
 | [], k => by simp [mosC]
 | m :: r, 0 => by simp
 | m :: r, k + 1 => by
  rw [List.drop_succ_cons, ← mos_drop r k, show (k + 1) * 2 = k * 2 + 2 by omega]
  rfl
theorem mos_at {ms : List Mo} {k : Nat} (h : k < ms.length) : List.take 2 (List.drop (k * 2) (mosC ms)) = [ints (nI ms[k].1), ints (nI ms[k].2)] := by
 rw [mos_drop, List.drop_eq_getElem_cons h]
 rfl
theorem mos_in {ms : List Mo} {k : Nat} (h : k < ms.length) : k * 2 + 2 ≤ ms.length * 2 := by omega

set_option linter.unusedSimpArgs false

def nrm (f s : Nat) : Nat := bif (s &&& f) == 0 then s else s / 2 ^ (s &&& f).log2 * 2 ^ (s &&& f).log2
abbrev Mk := Nat × Nat × Nat × Nat × Nat
def Mk.s0 (k : Mk) : Nat := k.1
def Mk.p0 (k : Mk) : Nat := k.2.1
def Mk.s1 (k : Mk) : Nat := k.2.2.1
def Mk.p1 (k : Mk) : Nat := k.2.2.2.1
def Mk.f (k : Mk) : Nat := k.2.2.2.2
def n0 (k : Mk) (s : Nat) : Nat := nrm k.f ((s &&& k.s0) ||| (s &&& k.p0) * 2)
def n1 (k : Mk) (s : Nat) : Nat := nrm k.f ((s &&& k.s1) ||| (s &&& k.p1) * 2)
def bfs (f g : Nat → Nat) : Nat → List Nat → List Nat → Nat → List Nat
 | 0, _, done, _ => done
 | _ + 1, [], done, _ => done
 | n + 1, x :: todo, done, V =>
  bif V.testBit (f x) then
   bif V.testBit (g x) then bfs f g n todo (x :: done) V
   else bfs f g n (g x :: todo) (x :: done) (V ||| 2 ^ g x)
  else
   bif (V ||| 2 ^ f x).testBit (g x) then bfs f g n (f x :: todo) (x :: done) (V ||| 2 ^ f x)
   else bfs f g n (g x :: f x :: todo) (x :: done) (V ||| 2 ^ f x ||| 2 ^ g x)
def bitsL (l : List Nat) : Nat := l.foldl (fun v x => v ||| 2 ^ x) 0
def cl (f g : Nat → Nat) (s : Nat) (l : List Nat) : Bool := let V := bitsL l; V.testBit s && l.all fun x => V.testBit (f x) && V.testBit (g x)
def r1 (k : Mk) : List Nat := bfs (n0 k) (n1 k) 16 [nrm k.f 1] [] (2 ^ nrm k.f 1)
def q0 (k l : Mk) (p : Nat) : Nat := n0 k (p / 16) * 16 + n0 l (p % 16)
def q1 (k l : Mk) (p : Nat) : Nat := n1 k (p / 16) * 16 + n1 l (p % 16)
def r2 (k l : Mk) : List Nat := bfs (q0 k l) (q1 k l) 121 [nrm k.f 1 * 16 + nrm l.f 1] [] (2 ^ (nrm k.f 1 * 16 + nrm l.f 1))
def lists (n : Nat) : Nat → List (List Nat)
 | 0 => [[]]
 | k + 1 => (lists n k).flatMap fun l => (List.range n).map fun x => x :: l
theorem nodup_len {α : Type} [DecidableEq α] : ∀ {l s : List α}, l.Nodup → (∀ x ∈ l, x ∈ s) → l.length ≤ s.length
 | [], s, _, _ => by simp
 | x :: l, s, h, hs => by
  rw [List.nodup_cons] at h
  have hx : x ∈ s := hs x (by simp)
  have := nodup_len (l := l) (s := s.erase x) h.2 (fun y hy => by
   have hne : y ≠ x := fun e => h.1 (e ▸ hy)
   exact (List.mem_erase_of_ne hne).2 (hs y (by simp [hy])))
  rw [List.length_erase_of_mem hx] at this
  have : 0 < s.length := List.length_pos_of_mem hx
  simp only [List.length_cons]
  omega
theorem map_nodup {α β γ : Type} {l : List α} {f : α → β} {g : α → γ} (h : (l.map f).Nodup) (hfg : ∀ x ∈ l, ∀ y ∈ l, g x = g y → f x = f y) : (l.map g).Nodup := by
 induction l with
 | nil => simp
 | cons x r ih =>
  rw [List.map_cons, List.nodup_cons] at h ⊢
  refine ⟨fun hm => ?_, ih h.2 (fun a ha b hb => hfg a (by simp [ha]) b (by simp [hb]))⟩
  obtain ⟨y, hy, e⟩ := List.mem_map.1 hm
  exact h.1 (List.mem_map.2 ⟨y, hy, (hfg y (by simp [hy]) x (by simp) e)⟩)
end Go.Proofs.YtnffigeofdagfaaDoor.M
