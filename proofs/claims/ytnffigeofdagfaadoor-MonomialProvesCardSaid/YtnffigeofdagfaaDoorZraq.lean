/-
  Walks in my logic: bits of numbers, Validate, Run, Accepts of automata, Valid of words, words of the tape.
  Walks in my logic: monomials: Validate, validList, those of the tape, the law's list.
  Walks in my logic: the law's list of monomials; movesOf, Match.
  Walks in my logic: Match of monomials.
  Monomials in plain Lean: what is left to read; the automata of at most three monomials of at most three letters over two letters have at most 512 states.
-/
import Derived.Test.YtnffigeofdagfaaDoorZrap
import Derived.Test.YtnffigeofdagfaaDoorZrao
namespace Go.Proofs.YtnffigeofdagfaaDoor.M
open Go.RowKit
set_option linter.unusedVariables false
set_option linter.unusedSimpArgs false

theorem wrN {x : Nat} (hx : x < 18446744073709551616) : IntKind.u64.wrap (x : Int) = (x : Int) := by
 rw [IntKind.wrap_u64]; omega
theorem bvN {x : Nat} (hx : x < 18446744073709551616) : (BitVec.ofInt IntKind.u64.bits (x : Int)).toNat = x := by
 show (BitVec.ofInt 64 (x : Int)).toNat = x
 rw [BitVec.toNat_ofInt]; omega
theorem andN {x y : Nat} (hx : x < 18446744073709551616) (hy : y < 18446744073709551616) : andI .u64 (x : Int) (y : Int) = ((x &&& y : Nat) : Int) := by
 unfold andI
 rw [BitVec.toNat_and, bvN hx, bvN hy, wrN (Nat.and_lt_two_pow (n := 64) _ hy)]
theorem orN {x y : Nat} (hx : x < 18446744073709551616) (hy : y < 18446744073709551616) : orI .u64 (x : Int) (y : Int) = ((x ||| y : Nat) : Int) := by
 unfold orI
 rw [BitVec.toNat_or, bvN hx, bvN hy, wrN (Nat.or_lt_two_pow (n := 64) hx hy)]
theorem shlN {x k : Nat} (h : x * 2 ^ k < 18446744073709551616) (hk : k ≤ 64) : shlI .u64 (x : Int) (k : Int) = ((x * 2 ^ k : Nat) : Int) := by
 unfold shlI
 have e : min (k : Int).toNat IntKind.u64.bits = k := by
  show min (k : Int).toNat 64 = k
  omega
 rw [e, show ((x : Int) * 2 ^ k) = ((x * 2 ^ k : Nat) : Int) by push_cast; rfl, wrN h]
theorem shrN {kd : IntKind} {x k : Nat} (hk : k ≤ kd.bits) : shrI kd (x : Int) (k : Int) = ((x / 2 ^ k : Nat) : Int) := by
 unfold shrI
 have e : min (k : Int).toNat kd.bits = k := by omega
 have h0 : (0 : Int) ≤ 2 ^ k := Int.pow_nonneg (by decide)
 rw [e, Int.fdiv_eq_ediv_of_nonneg _ h0]
 push_cast; rfl
def nI (xs : List Nat) : List Int := xs.map fun (x : Nat) => (x : Int)
@[simp] theorem nI_len (xs : List Nat) : (nI xs).length = xs.length := by simp [nI]
theorem nI_get {xs : List Nat} {k : Nat} (h : k < xs.length) : (nI xs)[k]? = some (xs[k] : Int) := by simp [nI, h]
theorem nI_snoc (xs : List Nat) (x : Nat) : nI (xs ++ [x]) = nI xs ++ [(x : Int)] := by simp [nI]
set_option maxRecDepth 100000 in
set_option maxHeartbeats 4000000 in
theorem dvalidate_fn {L n s : Nat} {bs : List Bool} {nxt : List (List Int)} (h : DfL L n s bs nxt) (hL : 1 ≤ L) (hL2 : L ≤ 6) (hn : n ≤ 512) : FnA Tryd.prog 44 [dfT 0 L s bs nxt] (.t 2 (.int .i64 0)) := by
 have hn1 := h.n1
 have hst := h.st
 have hbl := h.bl
 have hnl := h.nl
 refine fn_intro Tryd.func44 rfl (by simp [Tryd.f44]) ?_
 rw [show Tryd.f44.ntmps = 64 from rfl, show Tryd.f44.results = #[.tmp 2] from rfl]
 refine awp_seqR fun K hK => ?_
 simp (maxSteps := 2000000) (disch := omega) [ints, rows, scal, wr64, wr8, dfT, bools]
 (repeat' first | apply hK | apply And.intro) <;> try first | (show okH _ _ _ = true; kernel_rfl) | omega | rfl | (simp <;> omega)
 refine awp_seq ?_
 have dL1 : ¬ (L : Int) < 1 := by omega
 have dL2 : ¬ (6 : Int) < L := by omega
 refine awp_seqR fun K hK => ?_
 simp (maxSteps := 2000000) (disch := omega) [ints, rows, scal, wr64, wr8, dL1, dL2]
 (repeat' first | apply hK | apply And.intro) <;> try first | (show okH _ _ _ = true; kernel_rfl) | omega | rfl | (simp <;> omega)
 refine awp_cond (b := false) (p := 2) (by simp [scal] <;> omega) ?_
 refine awp_skip ?_
 show awp _ _ _ _
 refine awp_seqR fun K hK => ?_
 simp (maxSteps := 2000000) (disch := omega) [ints, rows, scal, wr64, wr8, hbl]
 (repeat' first | apply hK | apply And.intro) <;> try first | (show okH _ _ _ = true; kernel_rfl) | omega | rfl | (simp <;> omega)
 refine awp_seq ?_
 refine awp_seqR fun K hK => ?_
 simp (maxSteps := 2000000) (disch := omega) [ints, rows, scal, wr64, wr8]
 (repeat' first | apply hK | apply And.intro) <;> try first | (show okH _ _ _ = true; kernel_rfl) | omega | rfl | (simp <;> omega)
 refine awp_cond (b := false) (p := 2) (by simp [scal] <;> omega) ?_
 refine awp_skip ?_
 show awp _ _ _ _
 refine awp_seq ?_
 have d4 : decide ((s : Int) ≥ n) = false := by simp; omega
 have d3 : decide ((s : Int) < 0) = false := by simp
 refine awp_seqR fun K hK => ?_
 simp (maxSteps := 2000000) (disch := omega) [ints, rows, scal, wr64, wr8, d3, d4, hnl]
 (repeat' first | apply hK | apply And.intro) <;> try first | (show okH _ _ _ = true; kernel_rfl) | omega | rfl | (simp <;> omega)
 refine awp_cond (b := false) (p := 2) (by simp [scal] <;> omega) ?_
 refine awp_skip ?_
 show awp _ _ _ _
 show awp _ _ _ _
 refine awp_seq ?_
 refine awp_seqR fun K hK => ?_
 simp (maxSteps := 2000000) (disch := omega) [ints, rows, scal, wr64, wr8]
 (repeat' first | apply hK | apply And.intro) <;> try first | (show okH _ _ _ = true; kernel_rfl) | omega | rfl | (simp <;> omega)
 refine awp_block ?_
 refine awp_loop (fun y : Nat => mkS [(1, .ptr 0 0 4), (3, .t 2 (.int .i64 n)), (38, .t 0 (rows nxt)), (39, .t 2 (.int .i64 n)), (40, .t 2 (.int .i64 y))] [(0, .box 32 [.t 2 (.int .i64 L), .t 2 (.int .i64 s), .t 0 (bools bs), .t 0 (rows nxt)])] 1 64 [.any]) (fun y => y ≤ n) (fun y => n - y) ?_ ?_
 ·refine ⟨0, by omega, ?_⟩
  refine wk_list [(0, some 0)] rfl ?_ ?_ ?_ ?_
  all_goals try simp [ints, rows, bools, hbl, hnl, dfT]
 ·intro q hq
  refine awp_seqR fun K hK => ?_
  simp (maxSteps := 2000000) (disch := omega) [ints, rows, scal, wr64, wr8]
  (repeat' first | apply hK | apply And.intro) <;> try first | (show okH _ _ _ = true; kernel_rfl) | omega | rfl | (simp <;> omega)
  refine awp_seq ?_
  by_cases hqn : q < n
  ·have hqx : q < nxt.length := by omega
   obtain ⟨hrl, hrv⟩ := h.row nxt[q] (by simp)
   refine awp_cond (b := true) (p := 2) (by simp [scal, hqn] <;> omega) ?_
   refine awp_skip ?_
   show awp _ _ _ _
   refine awp_seq ?_
   refine awp_block ?_
   refine awp_seqR fun K hK => ?_
   simp (maxSteps := 2000000) (disch := omega) [ints, rows, scal, wr64, wr8, hqx]
   (repeat' first | apply hK | apply And.intro) <;> try first | (show okH _ _ _ = true; kernel_rfl) | omega | rfl | (simp <;> omega)
   refine awp_seq ?_
   refine awp_seqR fun K hK => ?_
   simp (maxSteps := 2000000) (disch := omega) [ints, rows, scal, wr64, wr8, hrl]
   (repeat' first | apply hK | apply And.intro) <;> try first | (show okH _ _ _ = true; kernel_rfl) | omega | rfl | (simp <;> omega)
   refine awp_cond (b := false) (p := 2) (by simp [scal] <;> omega) ?_
   refine awp_skip ?_
   show awp _ _ _ _
   refine awp_seqR fun K hK => ?_
   simp (maxSteps := 2000000) (disch := omega) [ints, rows, scal, wr64, wr8, hrl]
   (repeat' first | apply hK | apply And.intro) <;> try first | (show okH _ _ _ = true; kernel_rfl) | omega | rfl | (simp <;> omega)
   refine awp_block ?_
   refine awp_loop (fun y : Nat => mkS [(1, .ptr 0 0 4), (3, .t 2 (.int .i64 n)), (38, .t 0 (rows nxt)), (39, .t 2 (.int .i64 n)), (40, .t 2 (.int .i64 q)), (49, .t 0 (ints nxt[q])), (50, .t 2 (.int .i64 L)), (51, .t 2 (.int .i64 y))] [(0, .box 32 [.t 2 (.int .i64 L), .t 2 (.int .i64 s), .t 0 (bools bs), .t 0 (rows nxt)])] 1 64 [.any]) (fun y => y ≤ L) (fun y => L - y) ?_ ?_
   ·refine ⟨0, by omega, ?_⟩
    refine wk_list [(0, some 0)] rfl ?_ ?_ ?_ ?_
    all_goals try simp [ints, rows, bools]
   ·intro x hx
    refine awp_seqR fun K hK => ?_
    simp (maxSteps := 2000000) (disch := omega) [ints, rows, scal, wr64, wr8]
    (repeat' first | apply hK | apply And.intro) <;> try first | (show okH _ _ _ = true; kernel_rfl) | omega | rfl | (simp <;> omega)
    refine awp_seq ?_
    by_cases hxl : x < L
    ·have hxr : x < nxt[q].length := by omega
     obtain ⟨e1, e2⟩ := hrv nxt[q][x] (by simp)
     have e3 : ¬ nxt[q][x] < 0 := by omega
     have e4 : ¬ (n : Int) ≤ nxt[q][x] := by omega
     refine awp_cond (b := true) (p := 2) (by simp [scal, hxl] <;> omega) ?_
     refine awp_skip ?_
     show awp _ _ _ _
     refine awp_seq ?_
     refine awp_block ?_
     refine awp_seqR fun K hK => ?_
     simp (maxSteps := 2000000) (disch := omega) [ints, rows, scal, wr64, wr8, hxr]
     (repeat' first | apply hK | apply And.intro) <;> try first | (show okH _ _ _ = true; kernel_rfl) | omega | rfl | (simp <;> omega)
     refine awp_seqR fun K hK => ?_
     simp (maxSteps := 2000000) (disch := omega) [ints, rows, scal, wr64, wr8, e3, e4]
     (repeat' first | apply hK | apply And.intro) <;> try first | (show okH _ _ _ = true; kernel_rfl) | omega | rfl | (simp <;> omega)
     refine awp_cond (b := false) (p := 2) (by simp [scal] <;> omega) ?_
     refine awp_skip ?_
     show awp _ _ _ _
     refine awp_R fun K hK => ?_
     simp (maxSteps := 2000000) (disch := omega) [ints, rows, scal, wr64, wr8]
     (repeat' first | apply hK | apply And.intro) <;> try first | (show okH _ _ _ = true; kernel_rfl) | omega | rfl | (simp <;> omega)
     refine ⟨x + 1, by omega, by omega, ?_⟩
     refine wk_list [(0, some 0)] rfl ?_ ?_ ?_ ?_
     all_goals try simp [ints, rows, bools]
    ·refine awp_cond (b := false) (p := 2) (by simp [scal, hxl] <;> omega) ?_
     refine awp_exit ?_
     show awp _ _ _ _
     refine awp_R fun K hK => ?_
     simp (maxSteps := 2000000) (disch := omega) [ints, rows, scal, wr64, wr8]
     (repeat' first | apply hK | apply And.intro) <;> try first | (show okH _ _ _ = true; kernel_rfl) | omega | rfl | (simp <;> omega)
     refine ⟨q + 1, by omega, by omega, ?_⟩
     refine wk_list [(0, some 0)] rfl ?_ ?_ ?_ ?_
     all_goals try simp [ints, rows, bools]
  ·refine awp_cond (b := false) (p := 2) (by simp [scal, hqn] <;> omega) ?_
   refine awp_exit ?_
   show awp _ _ _ _
   refine awp_seqR fun K hK => ?_
   simp (maxSteps := 2000000) (disch := omega) [ints, rows, scal, wr64, wr8]
   (repeat' first | apply hK | apply And.intro) <;> try first | (show okH _ _ _ = true; kernel_rfl) | omega | rfl | (simp <;> omega)
   refine awp_ret ?_
   refine ⟨⟨.inr rfl, _, [], rfl, trivial, trivial, by simp [dfT], ?_⟩, by simp [dfT]⟩
   simp [dfT]

set_option maxRecDepth 100000 in
set_option maxHeartbeats 4000000 in
theorem wordValid_fn {L : Nat} {w : List Nat} (hw : ∀ x ∈ w, x < L) (hL : 1 ≤ L) (hL2 : L ≤ 6) (hn : w.length ≤ 2048) : FnA Tryd.prog 38 [.t 2 (.str (strL w)), .t 2 (.int .i64 L)] (.t 2 (.bool true)) := by
 refine fn_intro Tryd.func38 rfl (by simp [Tryd.f38]) ?_
 rw [show Tryd.f38.ntmps = 36 from rfl, show Tryd.f38.results = #[.tmp 4] from rfl]
 refine awp_seqR fun K hK => ?_
 simp (maxSteps := 2000000) (disch := omega) [ints, rows, scal, wr64, wr8]
 (repeat' first | apply hK | apply And.intro) <;> try first | (show okH _ _ _ = true; kernel_rfl) | omega | rfl | (simp <;> omega)
 refine awp_seq ?_
 have d1 : ¬ (L : Int) < 1 := by omega
 have d2 : ¬ (6 : Int) < L := by omega
 have d3 : ¬ (2048 : Int) < w.length := by omega
 refine awp_seqR fun K hK => ?_
 simp (maxSteps := 2000000) (disch := omega) [ints, rows, scal, wr64, wr8, d1, d2, d3]
 (repeat' first | apply hK | apply And.intro) <;> try first | (show okH _ _ _ = true; kernel_rfl) | omega | rfl | (simp <;> omega)
 refine awp_cond (b := false) (p := 2) (by simp [scal] <;> omega) ?_
 refine awp_skip ?_
 show awp _ _ _ _
 refine awp_seq ?_
 refine awp_seqR fun K hK => ?_
 simp (maxSteps := 2000000) (disch := omega) [ints, rows, scal, wr64, wr8]
 (repeat' first | apply hK | apply And.intro) <;> try first | (show okH _ _ _ = true; kernel_rfl) | omega | rfl | (simp <;> omega)
 refine awp_block ?_
 refine awp_loop (fun y : Nat => mkS [(0, .t 2 (.str (strL w))), (1, .t 2 (.int .i64 L)), (18, .t 2 (.int .i64 w.length)), (19, .t 2 (.int .i64 y))] [] 0 36 [.any, .any]) (fun y => y ≤ w.length) (fun y => w.length - y) ?_ ?_
 ·refine ⟨0, by omega, ?_⟩
  refine wk_list [] rfl ?_ ?_ ?_ ?_
  all_goals try simp [ints]
 ·intro y hI
  refine awp_seqR fun K hK => ?_
  simp (maxSteps := 2000000) (disch := omega) [ints, rows, scal, wr64, wr8]
  (repeat' first | apply hK | apply And.intro) <;> try first | (show okH _ _ _ = true; kernel_rfl) | omega | rfl | (simp <;> omega)
  refine awp_seq ?_
  by_cases hc : y < w.length
  ·refine awp_cond (b := true) (p := 2) (by simp [scal, hc] <;> omega) ?_
   have hy := hw w[y] (by simp)
   refine awp_skip ?_
   show awp _ _ _ _
   refine awp_seq ?_
   refine awp_block ?_
   refine awp_seqR fun K hK => ?_
   simp (maxSteps := 2000000) (disch := omega) [ints, rows, scal, wr64, wr8]
   (repeat' first | apply hK | apply And.intro) <;> try first | (show okH _ _ _ = true; kernel_rfl) | omega | rfl | (simp <;> omega)
   have e0 := byteAt_strL hc (by omega)
   have e1 : ¬ (97 + (w[y] : Int) < 97) := by omega
   have e2 : IntKind.u8.wrap (97 + (w[y] : Int) - 97) = w[y] := by rw [sub97, wr8 _ (by omega) (by omega)]
   have e3 : ¬ ((L : Int) ≤ (w[y] : Int)) := by omega
   refine awp_seqR fun K hK => ?_
   simp (maxSteps := 2000000) (disch := omega) [ints, rows, scal, wr64, wr8, e0, e1, e2, e3, hc]
   (repeat' first | apply hK | apply And.intro) <;> try first | (show okH _ _ _ = true; kernel_rfl) | omega | rfl | (simp <;> omega)
   refine awp_cond (b := false) (p := 2) (by simp [scal] <;> omega) ?_
   refine awp_skip ?_
   show awp _ _ _ _
   refine awp_R fun K hK => ?_
   simp (maxSteps := 2000000) (disch := omega) [ints, rows, scal, wr64, wr8]
   (repeat' first | apply hK | apply And.intro) <;> try first | (show okH _ _ _ = true; kernel_rfl) | omega | rfl | (simp <;> omega)
   refine ⟨y + 1, by omega, by omega, ?_⟩
   refine wk_list [] rfl ?_ ?_ ?_ ?_
   all_goals try simp [ints]
  ·refine awp_cond (b := false) (p := 2) (by simp [scal, hc] <;> omega) ?_
   refine awp_exit ?_
   show awp _ _ _ _
   refine awp_seqR fun K hK => ?_
   simp (maxSteps := 2000000) (disch := omega) [ints, rows, scal, wr64, wr8]
   (repeat' first | apply hK | apply And.intro) <;> try first | (show okH _ _ _ = true; kernel_rfl) | omega | rfl | (simp <;> omega)
   refine awp_ret ?_
   refine ⟨⟨.inr rfl, _, [], rfl, trivial, trivial, by simp, ?_⟩, by simp⟩
   simp
set_option maxRecDepth 100000 in
set_option maxHeartbeats 4000000 in
theorem run_fn' {L n s q : Nat} {bs : List Bool} {nxt : List (List Int)} {w : List Nat} (h : DfL L n s bs nxt) (hL : 1 ≤ L) (hL2 : L ≤ 6) (hn : n ≤ 512) (hq : q < n) (hw : ∀ x ∈ w, x < L) (hwl : w.length ≤ 2048) : FnA Tryd.prog 40 [dfT 0 L s bs nxt, .t 2 (.int .i64 q), .t 2 (.str (strL w))] (.t 2 (.int .i64 (walkR nxt q w : Nat))) := by
 have hbl := h.bl
 have hnl := h.nl
 refine fn_intro Tryd.func40 rfl (by simp [Tryd.f40]) ?_
 rw [show Tryd.f40.ntmps = 47 from rfl, show Tryd.f40.results = #[.tmp 6] from rfl]
 refine awp_seqR fun K hK => ?_
 simp (maxSteps := 2000000) (disch := omega) [ints, rows, scal, wr64, wr8, dfT, bools]
 (repeat' first | apply hK | apply And.intro) <;> try first | (show okH _ _ _ = true; kernel_rfl) | omega | rfl | (simp <;> omega)
 refine awp_seq ?_
 have d1 : ¬ (q : Int) < 0 := by omega
 have d2 : ¬ (n : Int) ≤ q := by omega
 refine awp_seqR fun K hK => ?_
 simp (maxSteps := 2000000) (disch := omega) [ints, rows, scal, wr64, wr8]
 (repeat' apply And.intro)
 all_goals (try omega)
 refine call_rule (caps := []) (dvalidate_fn h hL hL2 hn) [] [] 2 rfl rfl rfl rfl (by kernel_rfl) (by simp) ?_ trivial trivial rfl trivial trivial (by simp) ?_
 ·simp [scal, rows, ints, dfT, bools]
 simp (maxSteps := 2000000) (disch := omega) [ints, rows, scal, wr64, wr8, d1, d2, hbl]
 (repeat' apply And.intro)
 all_goals (try omega)
 refine call_rule (caps := []) (wordValid_fn hw hL hL2 hwl) [] [] 2 (by simp [scal, rows, ints]) rfl rfl rfl (by kernel_rfl) (by simp) ?_ trivial trivial rfl trivial trivial (by simp) ?_
 ·simp [scal, rows, ints]
 simp (maxSteps := 2000000) (disch := omega) [ints, rows, scal, wr64, wr8]
 (repeat' first | apply hK | apply And.intro) <;> try first | (show okH _ _ _ = true; kernel_rfl) | omega | rfl | (simp <;> omega)
 refine awp_cond (b := false) (p := 2) (by simp [scal] <;> omega) ?_
 refine awp_skip ?_
 show awp _ _ _ _
 refine awp_seq ?_
 refine awp_seqR fun K hK => ?_
 simp (maxSteps := 2000000) (disch := omega) [ints, rows, scal, wr64, wr8]
 (repeat' first | apply hK | apply And.intro) <;> try first | (show okH _ _ _ = true; kernel_rfl) | omega | rfl | (simp <;> omega)
 refine awp_block ?_
 refine awp_loop (fun y : Nat => mkS [(1, .t 2 (.int .i64 (walkR nxt q (w.take y) : Nat))), (2, .t 2 (.str (strL w))), (3, .ptr 0 0 4), (30, .t 2 (.int .i64 w.length)), (31, .t 2 (.int .i64 y))] [(0, .box 32 [.t 2 (.int .i64 L), .t 2 (.int .i64 s), .t 0 (bools bs), .t 0 (rows nxt)])] 1 47 [.any, .any, .any]) (fun y => y ≤ w.length) (fun y => w.length - y) ?_ ?_
 ·refine ⟨0, by omega, ?_⟩
  refine wk_list [(0, some 0)] rfl ?_ ?_ ?_ ?_
  all_goals try simp [ints, rows, bools, walkR]
 ·intro y hI
  refine awp_seqR fun K hK => ?_
  simp (maxSteps := 2000000) (disch := omega) [ints, rows, scal, wr64, wr8]
  (repeat' first | apply hK | apply And.intro) <;> try first | (show okH _ _ _ = true; kernel_rfl) | omega | rfl | (simp <;> omega)
  refine awp_seq ?_
  by_cases hc : y < w.length
  ·refine awp_cond (b := true) (p := 2) (by simp [scal, hc] <;> omega) ?_
   have hy := hw w[y] (by simp)
   have hwk : walkR nxt q (w.take y) < n := h.rt.walk (fun x hx => hw x (List.mem_of_mem_take hx)) hq
   obtain ⟨hs1, hi1, hi2, hs2⟩ := h.rt.step hwk hy
   refine awp_skip ?_
   show awp _ _ _ _
   refine awp_seq ?_
   refine awp_block ?_
   refine awp_seqR fun K hK => ?_
   simp (maxSteps := 2000000) (disch := omega) [ints, rows, scal, wr64, wr8]
   (repeat' first | apply hK | apply And.intro) <;> try first | (show okH _ _ _ = true; kernel_rfl) | omega | rfl | (simp <;> omega)
   have e0 := byteAt_strL hc (by omega)
   have e2 : IntKind.u8.wrap (97 + (w[y] : Int) - 97) = w[y] := by rw [sub97, wr8 _ (by omega) (by omega)]
   refine awp_RD (by kernel_rfl) (fun K hK => ?_)
   simp (maxSteps := 2000000) (disch := omega) [ints, rows, scal, wr64, wr8, e0, e2, hc, hi1, hi2, hs2]
   (repeat' first | apply hK | apply And.intro) <;> try first | (show chkD _ _ = true; kernel_rfl) | (show okH _ _ _ = true; kernel_rfl) | omega | rfl | (simp <;> omega)
   show awp _ _ _ _
   refine awp_R fun K hK => ?_
   simp (maxSteps := 2000000) (disch := omega) [ints, rows, scal, wr64, wr8]
   (repeat' first | apply hK | apply And.intro) <;> try first | (show okH _ _ _ = true; kernel_rfl) | omega | rfl | (simp <;> omega)
   refine ⟨y + 1, by omega, by omega, ?_⟩
   refine wk_list [(0, some 0)] rfl ?_ ?_ ?_ ?_
   all_goals try simp [ints, rows, bools]
   all_goals try rw [walkR_succ nxt q hc]
  ·refine awp_cond (b := false) (p := 2) (by simp [scal, hc] <;> omega) ?_
   have hy : w.take y = w := List.take_of_length_le (by omega)
   refine awp_exit ?_
   show awp _ _ _ _
   refine awp_seqR fun K hK => ?_
   simp (maxSteps := 2000000) (disch := omega) [ints, rows, scal, wr64, wr8]
   (repeat' first | apply hK | apply And.intro) <;> try first | (show okH _ _ _ = true; kernel_rfl) | omega | rfl | (simp <;> omega)
   refine awp_ret ?_
   refine ⟨⟨.inr rfl, _, [], rfl, trivial, trivial, by simp [hy, dfT], ?_⟩, by simp [hy, dfT]⟩
   simp [hy, dfT]
set_option maxRecDepth 100000 in
set_option maxHeartbeats 4000000 in
theorem accepts_fn {L n s : Nat} {bs : List Bool} {nxt : List (List Int)} {w : List Nat} (h : DfL L n s bs nxt) (hL : 1 ≤ L) (hL2 : L ≤ 6) (hn : n ≤ 512) (hw : ∀ x ∈ w, x < L) (hwl : w.length ≤ 2048) : FnA Tryd.prog 13 [dfT 0 L s bs nxt, .t 2 (.str (strL w))] (.t 2 (.bool (accR bs nxt s w))) := by
 have hbl := h.bl
 have hwk : walkR nxt s w < n := h.rt.walk hw h.st
 have hb : walkR nxt s w < bs.length := by omega
 refine fn_intro Tryd.func13 rfl (by simp [Tryd.f13]) ?_
 rw [show Tryd.f13.ntmps = 20 from rfl, show Tryd.f13.results = #[.tmp 4] from rfl]
 refine awp_seqR fun K hK => ?_
 simp (maxSteps := 2000000) (disch := omega) [ints, rows, scal, wr64, wr8, dfT, bools]
 (repeat' first | apply hK | apply And.intro) <;> try first | (show okH _ _ _ = true; kernel_rfl) | omega | rfl | (simp <;> omega)
 refine awp_seqR fun K hK => ?_
 simp (maxSteps := 2000000) (disch := omega) [ints, rows, scal, wr64, wr8]
 (repeat' apply And.intro)
 all_goals (try omega)
 refine call_rule (caps := []) (run_fn' h hL hL2 hn h.st hw hwl) [] [] 2 rfl rfl rfl rfl (by kernel_rfl) (by simp) ?_ trivial trivial rfl trivial trivial (by simp) ?_
 ·simp [scal, rows, ints, dfT, bools]
 simp (maxSteps := 2000000) (disch := omega) [ints, rows, scal, wr64, wr8]
 (repeat' first | apply hK | apply And.intro) <;> try first | (show okH _ _ _ = true; kernel_rfl) | omega | rfl | (simp <;> omega)
 refine awp_seqR fun K hK => ?_
 simp (maxSteps := 2000000) (disch := omega) [ints, rows, scal, wr64, wr8, hb]
 (repeat' first | apply hK | apply And.intro) <;> try first | (show okH _ _ _ = true; kernel_rfl) | omega | rfl | (simp <;> omega)
 refine awp_ret ?_
 refine ⟨⟨.inr rfl, _, [], rfl, trivial, trivial, by simp [dfT, accR, hb], ?_⟩, by simp [dfT, accR, hb]⟩
 simp [dfT, accR, hb]
theorem fold_push (f : T → UInt8) : ∀ (cs : List T) (b : ByteArray), cs.foldl (fun r c => r.push (f c)) b = ⟨b.data ++ (cs.map f).toArray⟩
 | [], b => by cases b; simp
 | c :: r, b => by
  rw [List.foldl_cons, fold_push f r]
  cases b
  simp [ByteArray.push]
theorem bytes_strL (w : List Nat) (hw : ∀ x ∈ w, x ≤ 20) : bytesT (w.map fun (x : Nat) => T.int .u8 (97 + (x : Int))) = strL w := by
 unfold bytesT
 rw [fold_push]
 unfold strL
 congr 1
 have e : (w.map fun (x : Nat) => T.int .u8 (97 + (x : Int))).map (fun c => UInt8.ofNat (u8n c).toNat) = w.map fun x => UInt8.ofNat (97 + x) := by
  rw [List.map_map]
  refine List.map_congr_left fun x hx => ?_
  have : (97 + (x : Int)).toNat = 97 + x := by omega
  simp [u8n, this]
 rw [e]
 simp
def WdG (L most : Nat) (xs : List Int) (res : AV) (H' : List AObj) : Prop := ∃ w b, w.length ≤ most ∧ (∀ x ∈ w, x < L) ∧ b ≤ xs.length ∧ res = .t 2 (.str (strL w)) ∧ H' = [tpO 1 xs b]
set_option maxRecDepth 100000 in
set_option maxHeartbeats 4000000 in
theorem tword_fn (xs : List Int) (a L most : Nat) (ha : a ≤ xs.length) (hl : xs.length ≤ 80) (hL : 1 ≤ L) (hL2 : L ≤ 6) (hm : most ≤ 100) : ∃ res H', WdG L most xs res H' ∧ FnS Tryd.prog 10 [.ptr 0 0 2, .t 2 (.int .i64 L), .t 2 (.int .i64 most)] [tpO 1 xs a] res H' := by
 refine fn_introGE Tryd.func10 rfl (by simp [Tryd.f10]) ?_
 rw [show Tryd.f10.ntmps = 27 from rfl, show Tryd.f10.results = #[.tmp 6] from rfl]
 obtain ⟨v, b, hv, hb, hN⟩ := next_fn xs a ((most : Int) + 1) ha hl (by omega)
 have hv := hv (by omega)
 refine awp_seqR fun K hK => ?_
 simp (maxSteps := 2000000) (disch := omega) [ints, rows, scal, wr64, wr8]
 (repeat' first | apply hK | apply And.intro) <;> try first | (show okH _ _ _ = true; kernel_rfl) | omega | rfl | (simp <;> omega)
 refine awp_seqR fun K hK => ?_
 simp (maxSteps := 2000000) (disch := omega) [ints, rows, scal, wr64, wr8]
 (repeat' first | apply hK | apply And.intro) <;> try first | (show okH _ _ _ = true; kernel_rfl) | omega | rfl | (simp <;> omega)
 refine awp_seq ?_
 refine awp_seqR fun K hK => ?_
 simp (maxSteps := 2000000) (disch := omega) [ints, rows, scal, wr64, wr8]
 (repeat' apply And.intro)
 all_goals (try omega)
 refine call_rule (caps := []) (hN) [0] [0] 1 rfl rfl rfl rfl (by kernel_rfl) (by simp) ?_ ?_ (by simp) rfl (by simp) ⟨.inr ⟨rfl, 0, _, _, _, _, _, rfl, rfl, rfl, rfl, rfl⟩, trivial⟩ (by simp [tpO]) ?_
 ·simp [scal, rows, ints, tpO]
 ·simp [scal, rows, ints, tpO]
 simp (maxSteps := 2000000) (disch := omega) [ints, rows, scal, wr64, wr8, tpO]
 (repeat' first | apply hK | apply And.intro) <;> try first | (show okH _ _ _ = true; kernel_rfl) | omega | rfl | (simp <;> omega)
 refine awp_block ?_
 refine awp_loop (fun y : Nat × Nat × List Nat => mkS [(0, .ptr 0 0 2), (1, .t 2 (.int .i64 L)), (7, .own 1 y.2.2.length), (8, .t 2 (.int .i64 y.1))] [(0, tpO 1 xs y.2.1), (1, .row 5 1 2 (y.2.2.map fun (x : Nat) => .int .u8 (97 + (x : Int))))] 2 27 [.ptr 0 0 2, .any, .any]) (fun y => y.1 + y.2.2.length ≤ most ∧ (∀ x ∈ y.2.2, x < L) ∧ y.2.1 ≤ xs.length) (fun y => y.1) ?_ ?_
 ·refine ⟨(v, b, []), ⟨by simp; omega, by simp, hb⟩, ?_⟩
  refine wk_list [(0, some 0), (1, none)] rfl ?_ ?_ ?_ ?_
  all_goals try simp [ints, tpO]
 rintro ⟨y, c, w⟩ ⟨h1, h2, h3⟩
 simp only at h1 h2 h3
 refine awp_seq ?_
 refine awp_seqR fun K hK => ?_
 simp (maxSteps := 2000000) (disch := omega) [ints, rows, scal, wr64, wr8]
 (repeat' first | apply hK | apply And.intro) <;> try first | (show okH _ _ _ = true; kernel_rfl) | omega | rfl | (simp <;> omega)
 by_cases hc : 0 < y
 ·refine awp_cond (b := true) (p := 2) (by simp [scal, hc] <;> omega) ?_
  obtain ⟨v2, c2, hv2, hc2, hN2⟩ := next_fn xs c L h3 hl (by omega)
  have hv2 := hv2 (by omega)
  refine awp_skip ?_
  show awp _ _ _ _
  refine awp_seq ?_
  refine awp_block ?_
  refine awp_R fun K hK => ?_
  simp (maxSteps := 2000000) (disch := omega) [ints, rows, scal, wr64, wr8]
  (repeat' apply And.intro)
  all_goals (try omega)
  refine call_rule (caps := []) (hN2) [0] [0] 1 rfl rfl rfl rfl (by kernel_rfl) (by simp) ?_ ?_ (by simp) rfl (by simp) ⟨.inr ⟨rfl, 0, _, _, _, _, _, rfl, rfl, rfl, rfl, rfl⟩, trivial⟩ (by simp [tpO]) ?_
  ·simp [scal, rows, ints, tpO]
  ·simp [scal, rows, ints, tpO]
  simp (maxSteps := 2000000) (disch := omega) [ints, rows, scal, wr64, wr8, tpO]
  (repeat' first | apply hK | apply And.intro) <;> try first | (show okH _ _ _ = true; kernel_rfl) | omega | rfl | (simp <;> omega)
  show awp _ _ _ _
  refine awp_R fun K hK => ?_
  simp (maxSteps := 2000000) (disch := omega) [ints, rows, scal, wr64, wr8]
  (repeat' first | apply hK | apply And.intro) <;> try first | (show okH _ _ _ = true; kernel_rfl) | omega | rfl | (simp <;> omega)
  have hy1 : (y : Int) - 1 = ((y - 1 : Nat) : Int) := by omega
  refine ⟨(y - 1, c2, w ++ [v2]), ⟨by simp; omega, fun x hx => ?_, hc2⟩, by simp; omega, ?_⟩
  ·rcases List.mem_append.1 hx with hx | hx
   ·exact h2 x hx
   ·simp at hx; omega
  refine wk_list [(0, some 0), (1, some 1)] rfl ?_ ?_ ?_ ?_
  all_goals try simp [ints, tpO, hy1]
 ·refine awp_cond (b := false) (p := 2) (by simp [scal, hc] <;> omega) ?_
  have hb : bytesT (w.map fun (x : Nat) => T.int .u8 (97 + (x : Int))) = strL w := by
   exact bytes_strL w (fun x hx => by have := h2 x hx; omega)
  refine awp_exit ?_
  show awp _ _ _ _
  refine awp_seqR fun K hK => ?_
  simp (maxSteps := 2000000) (disch := omega) [ints, rows, scal, wr64, wr8, isU8, hb]
  (repeat' first | apply hK | apply And.intro) <;> try first | (show okH _ _ _ = true; kernel_rfl) | omega | rfl | (simp <;> omega)
  refine awp_ret ?_
  refine ⟨⟨_, _, ⟨w, c, by omega, h2, h3, rfl, rfl⟩, ?_⟩, by simp⟩
  refine resQ_G ?_
  refine ⟨.inr rfl, _, [(0, some 0)], (by first | (simp; rfl) | rfl), ?_, ?_, ?_, ?_⟩
  all_goals try simp +contextual (disch := omega) [beq_gt, beq_lt, eq_lt, eq_gt, lt_t, List.getElem?_cons_succ, Option.getD_some, callF, ints, scal, tpO, wkPs_snoc, wkPs_tab, wkT_tab, wk1, rows, bools, tpO]

set_option linter.unusedSimpArgs false

abbrev Mo := List Nat × List Nat
def moV (p : Nat) (m : Mo) : AV := .agg [.t p (ints (nI m.1)), .t p (ints (nI m.2))]
structure MoOK (L most : Nat) (m : Mo) : Prop where
 sl : m.1.length = m.2.length + 1
 ll : m.2.length ≤ most
 sv : ∀ v ∈ m.1, v < 2 ^ L
 lv : ∀ a ∈ m.2, a < L
def mosC (ms : List Mo) : List T := ms.flatMap fun m => [ints (nI m.1), ints (nI m.2)]
@[simp] theorem mosC_len (ms : List Mo) : (mosC ms).length = ms.length * 2 := by
 unfold mosC
 induction ms with
 | nil => rfl
 | cons m r ih => simp only [List.flatMap_cons, List.length_append, ih]; simp; omega
theorem mos_drop : ∀ (ms : List Mo) (k : Nat), (mosC ms).drop (k * 2) = mosC (ms.drop k)
 | [], k => by simp [mosC]
 | m :: r, 0 => by simp
 | m :: r, k + 1 => by
  rw [List.drop_succ_cons, ← mos_drop r k, show (k + 1) * 2 = k * 2 + 2 by omega]
  rfl
theorem mos_at {ms : List Mo} {k : Nat} (h : k < ms.length) : List.take 2 (List.drop (k * 2) (mosC ms)) = [ints (nI ms[k].1), ints (nI ms[k].2)] := by
 rw [mos_drop, List.drop_eq_getElem_cons h]
 rfl
theorem mos_div (ms : List Mo) : ms.length * 2 / 2 = ms.length := by omega
theorem mos_in {ms : List Mo} {k : Nat} (h : k < ms.length) : k * 2 + 2 ≤ ms.length * 2 := by omega
theorem shl1 {L : Nat} (hL : L ≤ 6) : shlI .i64 1 (L : Int) = ((2 ^ L : Nat) : Int) := by
 rcases (by omega : L = 0 ∨ L = 1 ∨ L = 2 ∨ L = 3 ∨ L = 4 ∨ L = 5 ∨ L = 6) with rfl | rfl | rfl | rfl | rfl | rfl | rfl <;> decide
theorem two_le {L : Nat} (hL : L ≤ 6) : 2 ^ L ≤ 64 := Nat.pow_le_pow_right (n := 2) (by omega) hL
set_option maxRecDepth 100000 in
set_option maxHeartbeats 4000000 in
theorem mvalidate_fn {L : Nat} {m : Mo} (h : MoOK L 60 m) (hL : 1 ≤ L) (hL2 : L ≤ 6) : FnA Tryd.prog 37 [moV 0 m, .t 2 (.int .i64 L)] (.t 2 (.int .i64 0)) := by
 have hs := h.sl
 have hl := h.ll
 obtain ⟨E, hE, hsh, h64⟩ : ∃ E : Nat, E = 2 ^ L ∧ shlI .i64 1 (L : Int) = (E : Int) ∧ E ≤ 64 := ⟨_, rfl, shl1 hL2, two_le hL2⟩
 refine fn_intro Tryd.func37 rfl (by simp [Tryd.f37]) ?_
 rw [show Tryd.f37.ntmps = 58 from rfl, show Tryd.f37.results = #[.tmp 4] from rfl]
 refine awp_seqR fun K hK => ?_
 simp (maxSteps := 2000000) (disch := omega) [ints, rows, scal, wr64, wr8, moV]
 (repeat' first | apply hK | apply And.intro) <;> try first | (show okH _ _ _ = true; kernel_rfl) | omega | rfl | (simp <;> omega)
 refine awp_seq ?_
 have d1 : ¬ (L : Int) < 1 := by omega
 have d2 : ¬ (6 : Int) < L := by omega
 refine awp_seqR fun K hK => ?_
 simp (maxSteps := 2000000) (disch := omega) [ints, rows, scal, wr64, wr8, d1, d2]
 (repeat' first | apply hK | apply And.intro) <;> try first | (show okH _ _ _ = true; kernel_rfl) | omega | rfl | (simp <;> omega)
 refine awp_cond (b := false) (p := 2) (by simp [scal] <;> omega) ?_
 refine awp_skip ?_
 show awp _ _ _ _
 refine awp_seq ?_
 refine awp_seqR fun K hK => ?_
 simp (maxSteps := 2000000) (disch := omega) [ints, rows, scal, wr64, wr8]
 (repeat' first | apply hK | apply And.intro) <;> try first | (show okH _ _ _ = true; kernel_rfl) | omega | rfl | (simp <;> omega)
 refine awp_cond (b := false) (p := 2) (by simp [scal] <;> omega) ?_
 refine awp_skip ?_
 show awp _ _ _ _
 refine awp_seq ?_
 refine awp_seqR fun K hK => ?_
 simp (maxSteps := 2000000) (disch := omega) [ints, rows, scal, wr64, wr8, hs]
 (repeat' first | apply hK | apply And.intro) <;> try first | (show okH _ _ _ = true; kernel_rfl) | omega | rfl | (simp <;> omega)
 refine awp_cond (b := false) (p := 2) (by simp [scal] <;> omega) ?_
 refine awp_skip ?_
 show awp _ _ _ _
 refine awp_seq ?_
 refine awp_seqR fun K hK => ?_
 simp (maxSteps := 2000000) (disch := omega) [ints, rows, scal, wr64, wr8]
 (repeat' first | apply hK | apply And.intro) <;> try first | (show okH _ _ _ = true; kernel_rfl) | omega | rfl | (simp <;> omega)
 refine awp_block ?_
 refine awp_loop (fun y : Nat => mkS [(1, .t 2 (.int .i64 L)), (2, .ptr 0 0 2), (28, .t 0 (ints (nI m.1))), (29, .t 2 (.int .i64 m.1.length)), (30, .t 2 (.int .i64 y))] [(0, .box 37 [.t 0 (ints (nI m.1)), .t 0 (ints (nI m.2))])] 1 58 [.any, .any]) (fun y => y ≤ m.1.length) (fun y => m.1.length - y) ?_ ?_
 ·refine ⟨0, by omega, ?_⟩
  refine wk_list [(0, some 0)] rfl ?_ ?_ ?_ ?_
  all_goals try simp [ints, hs]
 ·intro y hy
  refine awp_seqR fun K hK => ?_
  simp (maxSteps := 2000000) (disch := omega) [ints, rows, scal, wr64, wr8]
  (repeat' first | apply hK | apply And.intro) <;> try first | (show okH _ _ _ = true; kernel_rfl) | omega | rfl | (simp <;> omega)
  refine awp_seq ?_
  by_cases hc : y < m.1.length
  ·refine awp_cond (b := true) (p := 2) (by simp [scal, hc] <;> omega) ?_
   have hv := h.sv m.1[y] (by simp)
   rw [← hE] at hv
   have hg : (nI m.1)[y]? = some (m.1[y] : Int) := nI_get hc
   have e2 : ¬ (E : Int) ≤ (m.1[y] : Int) := by omega
   refine awp_skip ?_
   show awp _ _ _ _
   refine awp_seq ?_
   refine awp_block ?_
   refine awp_seqR fun K hK => ?_
   simp (maxSteps := 2000000) (disch := omega) [ints, rows, scal, wr64, wr8, hg, hc]
   (repeat' first | apply hK | apply And.intro) <;> try first | (show okH _ _ _ = true; kernel_rfl) | omega | rfl | (simp <;> omega)
   have e1 : ¬ (m.1[y] : Int) < 0 := by omega
   refine awp_seqR fun K hK => ?_
   simp (maxSteps := 2000000) (disch := omega) [ints, rows, scal, wr64, wr8, e1, hsh, e2]
   (repeat' first | apply hK | apply And.intro) <;> try first | (show okH _ _ _ = true; kernel_rfl) | omega | rfl | (simp <;> omega)
   refine awp_cond (b := false) (p := 2) (by simp [scal] <;> omega) ?_
   refine awp_skip ?_
   show awp _ _ _ _
   refine awp_R fun K hK => ?_
   simp (maxSteps := 2000000) (disch := omega) [ints, rows, scal, wr64, wr8]
   (repeat' first | apply hK | apply And.intro) <;> try first | (show okH _ _ _ = true; kernel_rfl) | omega | rfl | (simp <;> omega)
   refine ⟨y + 1, by omega, by omega, ?_⟩
   refine wk_list [(0, some 0)] rfl ?_ ?_ ?_ ?_
   all_goals try simp [ints]
  ·refine awp_cond (b := false) (p := 2) (by simp [scal, hc] <;> omega) ?_
   refine awp_exit ?_
   show awp _ _ _ _
   refine awp_seq ?_
   refine awp_seqR fun K hK => ?_
   simp (maxSteps := 2000000) (disch := omega) [ints, rows, scal, wr64, wr8]
   (repeat' first | apply hK | apply And.intro) <;> try first | (show okH _ _ _ = true; kernel_rfl) | omega | rfl | (simp <;> omega)
   refine awp_block ?_
   refine awp_loop (fun y : Nat => mkS [(1, .t 2 (.int .i64 L)), (44, .t 0 (ints (nI m.2))), (45, .t 2 (.int .i64 m.2.length)), (46, .t 2 (.int .i64 y))] [(0, .box 37 [.t 0 (ints (nI m.1)), .t 0 (ints (nI m.2))])] 1 58 [.any, .any]) (fun y => y ≤ m.2.length) (fun y => m.2.length - y) ?_ ?_
   ·refine ⟨0, by omega, ?_⟩
    refine wk_list [(0, some 0)] rfl ?_ ?_ ?_ ?_
    all_goals try simp [ints]
   ·intro y hy
    refine awp_seqR fun K hK => ?_
    simp (maxSteps := 2000000) (disch := omega) [ints, rows, scal, wr64, wr8]
    (repeat' first | apply hK | apply And.intro) <;> try first | (show okH _ _ _ = true; kernel_rfl) | omega | rfl | (simp <;> omega)
    refine awp_seq ?_
    by_cases hc : y < m.2.length
    ·refine awp_cond (b := true) (p := 2) (by simp [scal, hc] <;> omega) ?_
     have hv := h.lv m.2[y] (by simp)
     have hg : (nI m.2)[y]? = some (m.2[y] : Int) := nI_get hc
     have e1 : ¬ (m.2[y] : Int) < 0 := by omega
     have e2 : ¬ (L : Int) ≤ (m.2[y] : Int) := by omega
     refine awp_skip ?_
     show awp _ _ _ _
     refine awp_seq ?_
     refine awp_block ?_
     refine awp_seqR fun K hK => ?_
     simp (maxSteps := 2000000) (disch := omega) [ints, rows, scal, wr64, wr8, hg, hc]
     (repeat' first | apply hK | apply And.intro) <;> try first | (show okH _ _ _ = true; kernel_rfl) | omega | rfl | (simp <;> omega)
     refine awp_seqR fun K hK => ?_
     simp (maxSteps := 2000000) (disch := omega) [ints, rows, scal, wr64, wr8, e1, e2]
     (repeat' first | apply hK | apply And.intro) <;> try first | (show okH _ _ _ = true; kernel_rfl) | omega | rfl | (simp <;> omega)
     refine awp_cond (b := false) (p := 2) (by simp [scal] <;> omega) ?_
     refine awp_skip ?_
     show awp _ _ _ _
     refine awp_R fun K hK => ?_
     simp (maxSteps := 2000000) (disch := omega) [ints, rows, scal, wr64, wr8]
     (repeat' first | apply hK | apply And.intro) <;> try first | (show okH _ _ _ = true; kernel_rfl) | omega | rfl | (simp <;> omega)
     refine ⟨y + 1, by omega, by omega, ?_⟩
     refine wk_list [(0, some 0)] rfl ?_ ?_ ?_ ?_
     all_goals try simp [ints]
    ·refine awp_cond (b := false) (p := 2) (by simp [scal, hc] <;> omega) ?_
     refine awp_exit ?_
     show awp _ _ _ _
     refine awp_seqR fun K hK => ?_
     simp (maxSteps := 2000000) (disch := omega) [ints, rows, scal, wr64, wr8]
     (repeat' first | apply hK | apply And.intro) <;> try first | (show okH _ _ _ = true; kernel_rfl) | omega | rfl | (simp <;> omega)
     refine awp_ret ?_
     refine ⟨⟨.inr rfl, _, [], rfl, trivial, trivial, by simp [moV], ?_⟩, by simp [moV]⟩
     simp [moV]
set_option maxRecDepth 100000 in
set_option maxHeartbeats 4000000 in
theorem validList_fn {L : Nat} {ms : List Mo} (h : ∀ m ∈ ms, MoOK L 60 m) (hn : ms.length ≤ 400) (hL : 1 ≤ L) (hL2 : L ≤ 6) : FnA Tryd.prog 33 [.t 0 (.sl 2 (mosC ms)), .t 2 (.int .i64 L)] (.t 2 (.int .i64 0)) := by
 have hdv := mos_div ms
 refine fn_intro Tryd.func33 rfl (by simp [Tryd.f33]) ?_
 rw [show Tryd.f33.ntmps = 30 from rfl, show Tryd.f33.results = #[.tmp 4] from rfl]
 refine awp_seqR fun K hK => ?_
 simp (maxSteps := 2000000) (disch := omega) [ints, rows, scal, wr64, wr8]
 (repeat' first | apply hK | apply And.intro) <;> try first | (show okH _ _ _ = true; kernel_rfl) | omega | rfl | (simp <;> omega)
 refine awp_seq ?_
 have d1 : ¬ (L : Int) < 1 := by omega
 have d2 : ¬ (6 : Int) < L := by omega
 refine awp_seqR fun K hK => ?_
 simp (maxSteps := 2000000) (disch := omega) [ints, rows, scal, wr64, wr8, d1, d2]
 (repeat' first | apply hK | apply And.intro) <;> try first | (show okH _ _ _ = true; kernel_rfl) | omega | rfl | (simp <;> omega)
 refine awp_cond (b := false) (p := 2) (by simp [scal] <;> omega) ?_
 refine awp_skip ?_
 show awp _ _ _ _
 refine awp_seq ?_
 refine awp_seqR fun K hK => ?_
 simp (maxSteps := 2000000) (disch := omega) [ints, rows, scal, wr64, wr8, hdv]
 (repeat' first | apply hK | apply And.intro) <;> try first | (show okH _ _ _ = true; kernel_rfl) | omega | rfl | (simp <;> omega)
 refine awp_cond (b := false) (p := 2) (by simp [scal] <;> omega) ?_
 refine awp_skip ?_
 show awp _ _ _ _
 refine awp_seq ?_
 refine awp_seqR fun K hK => ?_
 simp (maxSteps := 2000000) (disch := omega) [ints, rows, scal, wr64, wr8, hdv]
 (repeat' first | apply hK | apply And.intro) <;> try first | (show okH _ _ _ = true; kernel_rfl) | omega | rfl | (simp <;> omega)
 refine awp_block ?_
 refine awp_loop (fun y : Nat => mkS [(1, .t 2 (.int .i64 L)), (17, .t 0 (.sl 2 (mosC ms))), (18, .t 2 (.int .i64 ms.length)), (19, .t 2 (.int .i64 y))] [] 0 30 [.any, .any]) (fun y => y ≤ ms.length) (fun y => ms.length - y) ?_ ?_
 ·refine ⟨0, by omega, ?_⟩
  refine wk_list [] rfl ?_ ?_ ?_ ?_
  all_goals try simp [ints]
 ·intro y hy
  refine awp_seqR fun K hK => ?_
  simp (maxSteps := 2000000) (disch := omega) [ints, rows, scal, wr64, wr8]
  (repeat' first | apply hK | apply And.intro) <;> try first | (show okH _ _ _ = true; kernel_rfl) | omega | rfl | (simp <;> omega)
  refine awp_seq ?_
  by_cases hc : y < ms.length
  ·refine awp_cond (b := true) (p := 2) (by simp [scal, hc] <;> omega) ?_
   have hat := mos_at hc
   have hin := mos_in hc
   refine awp_skip ?_
   show awp _ _ _ _
   refine awp_seq ?_
   refine awp_block ?_
   refine awp_seqR fun K hK => ?_
   simp (maxSteps := 2000000) (disch := omega) [ints, rows, scal, wr64, wr8, hat, hin]
   (repeat' first | apply hK | apply And.intro) <;> try first | (show okH _ _ _ = true; kernel_rfl) | omega | rfl | (simp <;> omega)
   refine awp_seqR fun K hK => ?_
   simp (maxSteps := 2000000) (disch := omega) [ints, rows, scal, wr64, wr8]
   (repeat' apply And.intro)
   all_goals (try omega)
   refine call_rule (caps := []) (mvalidate_fn (h ms[y] (by simp)) hL hL2) [] [] 2 rfl rfl rfl rfl (by kernel_rfl) (by simp) ?_ trivial trivial rfl trivial trivial (by simp) ?_
   ·simp [scal, rows, ints, moV]
   simp (maxSteps := 2000000) (disch := omega) [ints, rows, scal, wr64, wr8]
   (repeat' first | apply hK | apply And.intro) <;> try first | (show okH _ _ _ = true; kernel_rfl) | omega | rfl | (simp <;> omega)
   refine awp_seqR fun K hK => ?_
   simp (maxSteps := 2000000) (disch := omega) [ints, rows, scal, wr64, wr8]
   (repeat' first | apply hK | apply And.intro) <;> try first | (show okH _ _ _ = true; kernel_rfl) | omega | rfl | (simp <;> omega)
   refine awp_cond (b := false) (p := 2) (by simp [scal] <;> omega) ?_
   refine awp_skip ?_
   show awp _ _ _ _
   refine awp_R fun K hK => ?_
   simp (maxSteps := 2000000) (disch := omega) [ints, rows, scal, wr64, wr8]
   (repeat' first | apply hK | apply And.intro) <;> try first | (show okH _ _ _ = true; kernel_rfl) | omega | rfl | (simp <;> omega)
   refine ⟨y + 1, by omega, by omega, ?_⟩
   refine wk_list [] rfl ?_ ?_ ?_ ?_
   all_goals try simp [ints]
  ·refine awp_cond (b := false) (p := 2) (by simp [scal, hc] <;> omega) ?_
   refine awp_exit ?_
   show awp _ _ _ _
   refine awp_seqR fun K hK => ?_
   simp (maxSteps := 2000000) (disch := omega) [ints, rows, scal, wr64, wr8]
   (repeat' first | apply hK | apply And.intro) <;> try first | (show okH _ _ _ = true; kernel_rfl) | omega | rfl | (simp <;> omega)
   refine awp_ret ?_
   refine ⟨⟨.inr rfl, _, [], rfl, trivial, trivial, by simp, ?_⟩, by simp⟩
   simp

set_option linter.unusedSimpArgs false

def stayF (ss : List Nat) (a : Nat) : Nat → Nat
 | 0 => 0
 | k + 1 => stayF ss a k ||| (ss.getD k 0 / 2 ^ a % 2) * 2 ^ k
def stepF (ls : List Nat) (a : Nat) : Nat → Nat
 | 0 => 0
 | k + 1 => if ls.getD k 6 = a then stepF ls a k ||| 2 ^ k else stepF ls a k
theorem stayF_lt (ss : List Nat) (a : Nat) : ∀ k, stayF ss a k < 2 ^ k
 | 0 => by simp [stayF]
 | k + 1 => by
  refine Nat.or_lt_two_pow (Nat.lt_of_lt_of_le (stayF_lt ss a k) (Nat.pow_le_pow_right (by omega) (by omega))) ?_
  have : ss.getD k 0 / 2 ^ a % 2 < 2 := Nat.mod_lt _ (by omega)
  have h2 : 0 < 2 ^ k := Nat.pow_pos (by omega)
  rw [Nat.pow_succ, Nat.mul_comm (2 ^ k) 2]
  exact Nat.mul_lt_mul_of_pos_right this h2
theorem stepF_lt (ls : List Nat) (a : Nat) : ∀ k, stepF ls a k < 2 ^ k
 | 0 => by simp [stepF]
 | k + 1 => by
  have h1 : stepF ls a k < 2 ^ (k + 1) := Nat.lt_of_lt_of_le (stepF_lt ls a k) (Nat.pow_le_pow_right (by omega) (by omega))
  have h2 : 2 ^ k < 2 ^ (k + 1) := Nat.pow_lt_pow_right (by omega) (by omega)
  unfold stepF
  split
  ·exact Nat.or_lt_two_pow h1 h2
  ·exact h1
def mvF (m : Mo) (i j k : Nat) : Nat := if k < 6 then stayF m.1 k i else stepF m.2 (k - 6) j
def mvT (n : Nat → Nat) : List AV := tab 12 fun k => .t 2 (.int .u64 (n k : Nat))
theorem mvT_eq (n : Nat → Nat) : mvT n = [.t 2 (.int .u64 (n 0 : Nat)), .t 2 (.int .u64 (n 1 : Nat)), .t 2 (.int .u64 (n 2 : Nat)), .t 2 (.int .u64 (n 3 : Nat)), .t 2 (.int .u64 (n 4 : Nat)), .t 2 (.int .u64 (n 5 : Nat)), .t 2 (.int .u64 (n 6 : Nat)), .t 2 (.int .u64 (n 7 : Nat)), .t 2 (.int .u64 (n 8 : Nat)), .t 2 (.int .u64 (n 9 : Nat)), .t 2 (.int .u64 (n 10 : Nat)), .t 2 (.int .u64 (n 11 : Nat))] := rfl
@[simp] theorem mvT_len (n : Nat → Nat) : (mvT n).length = 12 := rfl
theorem mvT_get (n : Nat → Nat) {k : Nat} (h : k < 12) : (mvT n)[k]? = some (.t 2 (.int .u64 (n k : Nat))) := tab_get _ h
theorem mvT_set (n : Nat → Nat) (k x : Nat) : (mvT n).set k (.t 2 (.int .u64 (x : Int))) = mvT fun j => if j = k then x else n j := by
 unfold mvT
 rw [tab_set]
 refine tab_congr fun i _ => ?_
 by_cases e : i = k <;> simp [e]
theorem mvT_wk {H : Nat → Option AObj} {m : Nat → Option Nat} {un : Nat → Prop} {nx : Nat} {n n' : Nat → Nat} : wkPs H m un nx (mvT n) (mvT n') = ∀ k, k < 12 → n k = n' k := by
 unfold mvT
 rw [wkPs_tab]
 refine propext (forall_congr' fun k => imp_congr_right fun _ => ?_)
 simp
 omega
@[simp] theorem mvT_take (n : Nat → Nat) : List.take 12 (mvT n) = mvT n := rfl
theorem stay_step (m : Mo) (a i : Nat) (h : i < m.1.length) (hi : i ≤ 60) : ∃ q t r : Nat, shrI .i64 ((m.1[i] : Nat) : Int) (a : Int) = q ∧ (q : Int) % 2 = t ∧ IntKind.u64.wrap (t : Int) = t ∧ shlI .u64 (t : Int) (i : Int) = r ∧ orI .u64 (stayF m.1 a i : Nat) (r : Int) = (stayF m.1 a (i + 1) : Nat) ∨ 64 < a := by
 by_cases ha : a ≤ 64
 case neg => exact ⟨0, 0, 0, .inr (by omega)⟩
 have h0 := stayF_lt m.1 a i
 have h1 := stayF_lt m.1 a (i + 1)
 have h2 : (2 : Nat) ^ (i + 1) ≤ 2 ^ 61 := Nat.pow_le_pow_right (by omega) (by omega)
 have h3 : (2 : Nat) ^ i ≤ 2 ^ 60 := Nat.pow_le_pow_right (by omega) (by omega)
 have ht : m.1[i] / 2 ^ a % 2 < 2 := Nat.mod_lt _ (by omega)
 have hr : m.1[i] / 2 ^ a % 2 * 2 ^ i < 2 ^ 61 := by
  have := Nat.mul_le_mul (Nat.le_of_lt_succ ht) h3
  omega
 refine ⟨m.1[i] / 2 ^ a, m.1[i] / 2 ^ a % 2, m.1[i] / 2 ^ a % 2 * 2 ^ i, .inl ⟨shrN ha, by omega, wrN (by omega), shlN (by omega) (by omega), ?_⟩⟩
 rw [orN (by omega) (by omega)]
 simp [stayF, List.getD_eq_getElem?_getD, h]
theorem step_step (m : Mo) (i : Nat) (h : i < m.2.length) (hi : i ≤ 60) : ∃ r : Nat, shlI .u64 1 (i : Int) = r ∧ orI .u64 (stepF m.2 m.2[i] i : Nat) (r : Int) = (stepF m.2 m.2[i] (i + 1) : Nat) := by
 have h0 := stepF_lt m.2 m.2[i] i
 have h3 : (2 : Nat) ^ i ≤ 2 ^ 60 := Nat.pow_le_pow_right (by omega) (by omega)
 refine ⟨2 ^ i, ?_, ?_⟩
 ·have := shlN (x := 1) (k := i) (by omega) (by omega)
  rw [Nat.one_mul] at this
  exact this
 ·rw [orN (by omega) (by omega)]
  simp [stepF, List.getD_eq_getElem?_getD, h]
set_option maxRecDepth 100000 in
set_option maxHeartbeats 4000000 in
theorem movesOf_fn {m : Mo} (h : MoOK 6 60 m) : FnA Tryd.prog 39 [moV 0 m] (.agg (mvT (mvF m m.1.length m.2.length))) := by
 have hs := h.sl
 have hl := h.ll
 refine fn_intro Tryd.func39 rfl (by simp [Tryd.f39]) ?_
 rw [show Tryd.f39.ntmps = 55 from rfl, show Tryd.f39.results = #[.cell 2 76] from rfl]
 refine awp_seqR fun K hK => ?_
 simp (maxSteps := 2000000) (disch := omega) [ints, rows, scal, wr64, wr8, moV]
 (repeat' first | apply hK | apply And.intro) <;> try first | (show okH _ _ _ = true; kernel_rfl) | omega | rfl | (simp <;> omega)
 refine awp_seqR fun K hK => ?_
 simp (maxSteps := 2000000) (disch := omega) [ints, rows, scal, wr64, wr8]
 (repeat' first | apply hK | apply And.intro) <;> try first | (show okH _ _ _ = true; kernel_rfl) | omega | rfl | (simp <;> omega)
 refine awp_seq ?_
 refine awp_seqR fun K hK => ?_
 simp (maxSteps := 2000000) (disch := omega) [ints, rows, scal, wr64, wr8]
 (repeat' first | apply hK | apply And.intro) <;> try first | (show okH _ _ _ = true; kernel_rfl) | omega | rfl | (simp <;> omega)
 refine awp_block ?_
 refine awp_loop (fun y : Nat => mkS [(1, .ptr 0 0 2), (2, .ptr 1 0 12), (3, .ptr 2 0 12), (10, .t 0 (ints (nI m.1))), (11, .t 2 (.int .i64 m.1.length)), (12, .t 2 (.int .i64 y))] [(0, .box 37 [.t 0 (ints (nI m.1)), .t 0 (ints (nI m.2))]), (1, .box 76 (mvT fun _ => 0)), (2, .box 76 (mvT (mvF m y 0)))] 3 55 [.any]) (fun y => y ≤ m.1.length) (fun y => m.1.length - y) ?_ ?_
 ·refine ⟨0, by omega, ?_⟩
  refine wk_list [(0, some 0), (1, some 1000000), (2, some 2000000)] rfl ?_ ?_ ?_ ?_
  all_goals try simp [ints, mvT_eq, mvF, stayF, stepF]
 intro i hi
 refine awp_seqR fun K hK => ?_
 simp (maxSteps := 2000000) (disch := omega) [ints, rows, scal, wr64, wr8]
 (repeat' first | apply hK | apply And.intro) <;> try first | (show okH _ _ _ = true; kernel_rfl) | omega | rfl | (simp <;> omega)
 refine awp_seq ?_
 by_cases hc : i < m.1.length
 ·refine awp_cond (b := true) (p := 2) (by simp [scal, hc] <;> omega) ?_
  have hg : (nI m.1)[i]? = some (m.1[i] : Int) := nI_get hc
  refine awp_skip ?_
  show awp _ _ _ _
  refine awp_seq ?_
  refine awp_block ?_
  refine awp_seqR fun K hK => ?_
  simp (maxSteps := 2000000) (disch := omega) [ints, rows, scal, wr64, wr8, hg, hc]
  (repeat' first | apply hK | apply And.intro) <;> try first | (show okH _ _ _ = true; kernel_rfl) | omega | rfl | (simp <;> omega)
  refine awp_seqR fun K hK => ?_
  simp (maxSteps := 2000000) (disch := omega) [ints, rows, scal, wr64, wr8]
  (repeat' first | apply hK | apply And.intro) <;> try first | (show okH _ _ _ = true; kernel_rfl) | omega | rfl | (simp <;> omega)
  refine awp_block ?_
  refine awp_loop (fun y : Nat => mkS [(1, .ptr 0 0 2), (2, .ptr 1 0 12), (3, .ptr 2 0 12), (4, .t 2 (.int .i64 i)), (5, .t 2 (.int .i64 (m.1[i] : Nat))), (10, .t 0 (ints (nI m.1))), (11, .t 2 (.int .i64 m.1.length)), (12, .t 2 (.int .i64 i)), (17, .t 2 (.int .i64 y))] [(0, .box 37 [.t 0 (ints (nI m.1)), .t 0 (ints (nI m.2))]), (1, .box 76 (mvT fun _ => 0)), (2, .box 76 (mvT fun k => if k < y then mvF m (i + 1) 0 k else mvF m i 0 k))] 3 55 [.any]) (fun y => y ≤ 6) (fun y => 6 - y) ?_ ?_
  ·refine ⟨0, by omega, ?_⟩
   refine wk_list [(0, some 0), (1, some 1), (2, some 2)] rfl ?_ ?_ ?_ ?_
   all_goals try simp [ints, mvT_wk]
  intro a ha
  refine awp_seqR fun K hK => ?_
  simp (maxSteps := 2000000) (disch := omega) [ints, rows, scal, wr64, wr8]
  (repeat' first | apply hK | apply And.intro) <;> try first | (show okH _ _ _ = true; kernel_rfl) | omega | rfl | (simp <;> omega)
  refine awp_seq ?_
  by_cases hc2 : a < 6
  ·refine awp_cond (b := true) (p := 2) (by simp [scal, hc2] <;> omega) ?_
   refine awp_skip ?_
   show awp _ _ _ _
   refine awp_seq ?_
   refine awp_block ?_
   refine awp_seqR fun K hK => ?_
   simp (maxSteps := 2000000) (disch := omega) [ints, rows, scal, wr64, wr8]
   (repeat' first | apply hK | apply And.intro) <;> try first | (show okH _ _ _ = true; kernel_rfl) | omega | rfl | (simp <;> omega)
   obtain ⟨q, t, r, hk⟩ := stay_step m a i hc (by omega)
   obtain ⟨k1, k2, k3, k4, k5⟩ := hk.resolve_right (by omega)
   have e1 : mvF m i 0 a = stayF m.1 a i := by simp [mvF, hc2]
   refine awp_RD (by kernel_rfl) (fun K hK => ?_)
   simp (maxSteps := 2000000) (disch := omega) [ints, rows, scal, wr64, wr8, mvT_get, hc2, k1, k2, k3, k4, e1, k5, mvT_set]
   (repeat' first | apply hK | apply And.intro) <;> try first | (show chkD _ _ = true; kernel_rfl) | (show okH _ _ _ = true; kernel_rfl) | omega | rfl | (simp <;> omega)
   show awp _ _ _ _
   refine awp_R fun K hK => ?_
   simp (maxSteps := 2000000) (disch := omega) [ints, rows, scal, wr64, wr8]
   (repeat' first | apply hK | apply And.intro) <;> try first | (show okH _ _ _ = true; kernel_rfl) | omega | rfl | (simp <;> omega)
   refine ⟨a + 1, by omega, by omega, ?_⟩
   refine wk_list [(0, some 0), (1, some 1), (2, some 2)] rfl ?_ ?_ ?_ ?_
   all_goals try simp [ints, mvT_wk]
   intro k hk
   by_cases e : k = a
   ·subst e; simp [mvF, hc2]
   ·rw [if_neg e]
    by_cases e2 : k < a
    ·rw [if_pos e2, if_pos (by omega)]
    ·rw [if_neg e2, if_neg (by omega)]
  ·refine awp_cond (b := false) (p := 2) (by simp [scal, hc2] <;> omega) ?_
   refine awp_exit ?_
   show awp _ _ _ _
   refine awp_R fun K hK => ?_
   simp (maxSteps := 2000000) (disch := omega) [ints, rows, scal, wr64, wr8]
   (repeat' first | apply hK | apply And.intro) <;> try first | (show okH _ _ _ = true; kernel_rfl) | omega | rfl | (simp <;> omega)
   refine ⟨i + 1, by omega, by omega, ?_⟩
   refine wk_list [(0, some 0), (1, some 1), (2, some 2)] rfl ?_ ?_ ?_ ?_
   all_goals try simp [ints, mvT_wk]
   intro k hk hk2
   unfold mvF
   rw [if_neg (by omega), if_neg (by omega)]
 ·refine awp_cond (b := false) (p := 2) (by simp [scal, hc] <;> omega) ?_
  refine awp_exit ?_
  show awp _ _ _ _
  refine awp_seq ?_
  refine awp_seqR fun K hK => ?_
  simp (maxSteps := 2000000) (disch := omega) [ints, rows, scal, wr64, wr8]
  (repeat' first | apply hK | apply And.intro) <;> try first | (show okH _ _ _ = true; kernel_rfl) | omega | rfl | (simp <;> omega)
  refine awp_block ?_
  refine awp_loop (fun y : Nat => mkS [(2, .ptr 1 0 12), (3, .ptr 2 0 12), (37, .t 0 (ints (nI m.2))), (38, .t 2 (.int .i64 m.2.length)), (39, .t 2 (.int .i64 y))] [(0, .box 37 [.t 0 (ints (nI m.1)), .t 0 (ints (nI m.2))]), (1, .box 76 (mvT fun _ => 0)), (2, .box 76 (mvT (mvF m m.1.length y)))] 3 55 [.any]) (fun y => y ≤ m.2.length) (fun y => m.2.length - y) ?_ ?_
  ·refine ⟨0, by omega, ?_⟩
   have hie : i = m.1.length := by omega
   refine wk_list [(0, some 0), (1, some 1), (2, some 2)] rfl ?_ ?_ ?_ ?_
   all_goals try simp [ints, hie, mvT_wk]
  intro j hj
  refine awp_seqR fun K hK => ?_
  simp (maxSteps := 2000000) (disch := omega) [ints, rows, scal, wr64, wr8]
  (repeat' first | apply hK | apply And.intro) <;> try first | (show okH _ _ _ = true; kernel_rfl) | omega | rfl | (simp <;> omega)
  refine awp_seq ?_
  by_cases hc2 : j < m.2.length
  ·refine awp_cond (b := true) (p := 2) (by simp [scal, hc2] <;> omega) ?_
   have hg : (nI m.2)[j]? = some (m.2[j] : Int) := nI_get hc2
   have hv := h.lv m.2[j] (by simp)
   refine awp_skip ?_
   show awp _ _ _ _
   refine awp_seq ?_
   refine awp_block ?_
   refine awp_seqR fun K hK => ?_
   simp (maxSteps := 2000000) (disch := omega) [ints, rows, scal, wr64, wr8, hg, hc2]
   (repeat' first | apply hK | apply And.intro) <;> try first | (show okH _ _ _ = true; kernel_rfl) | omega | rfl | (simp <;> omega)
   obtain ⟨r, k1, k2⟩ := step_step m j hc2 (by omega)
   have e1 : mvF m m.1.length j (6 + m.2[j]) = stepF m.2 m.2[j] j := by
    unfold mvF
    rw [if_neg (by omega), show 6 + m.2[j] - 6 = m.2[j] by omega]
   have e2 : 6 + m.2[j] < 12 := by omega
   refine awp_RD (by kernel_rfl) (fun K hK => ?_)
   simp (maxSteps := 2000000) (disch := omega) [ints, rows, scal, wr64, wr8, mvT_get, e2, e1, k1, k2, mvT_set, hv]
   (repeat' first | apply hK | apply And.intro) <;> try first | (show chkD _ _ = true; kernel_rfl) | (show okH _ _ _ = true; kernel_rfl) | omega | rfl | (simp <;> omega)
   show awp _ _ _ _
   refine awp_R fun K hK => ?_
   simp (maxSteps := 2000000) (disch := omega) [ints, rows, scal, wr64, wr8]
   (repeat' first | apply hK | apply And.intro) <;> try first | (show okH _ _ _ = true; kernel_rfl) | omega | rfl | (simp <;> omega)
   refine ⟨j + 1, by omega, by omega, ?_⟩
   refine wk_list [(0, some 0), (1, some 1), (2, some 2)] rfl ?_ ?_ ?_ ?_
   all_goals try simp [ints, mvT_wk]
   intro k hk
   by_cases e : k = 6 + m.2[j]
   ·subst e
    rw [if_pos rfl]
    unfold mvF
    rw [if_neg (by omega), show 6 + m.2[j] - 6 = m.2[j] by omega]
   ·rw [if_neg e]
    unfold mvF
    by_cases e2 : k < 6
    ·rw [if_pos e2, if_pos e2]
    ·rw [if_neg e2, if_neg e2]
     have : m.2.getD j 6 = m.2[j] := by simp [List.getD_eq_getElem?_getD, hc2]
     simp only [stepF, this]
     rw [if_neg (by omega)]
  ·refine awp_cond (b := false) (p := 2) (by simp [scal, hc2] <;> omega) ?_
   have hje : j = m.2.length := by omega
   refine awp_exit ?_
   show awp _ _ _ _
   refine awp_seqR fun K hK => ?_
   simp (maxSteps := 2000000) (disch := omega) [ints, rows, scal, wr64, wr8, mvT_eq]
   (repeat' first | apply hK | apply And.intro) <;> try first | (show okH _ _ _ = true; kernel_rfl) | omega | rfl | (simp <;> omega)
   refine awp_ret ?_
   refine ⟨⟨.inr rfl, _, [], (by simp; rfl), trivial, trivial, by simp [hje, moV, mvT_eq], ?_⟩, by simp [hje, moV, mvT_eq]⟩
   simp [ints, rows, hje, moV, mvT_eq]

set_option linter.unusedSimpArgs false

def matN (m : Mo) (a now : Nat) : Nat := (now &&& stayF m.1 a m.1.length) ||| (now &&& stepF m.2 a m.2.length) * 2
def matW (m : Mo) (w : List Nat) : Nat := w.foldl (fun s a => matN m a s) 1
def matB (m : Mo) (w : List Nat) : Bool := decide (matW m w / 2 ^ m.2.length % 2 = 1)
theorem matN_lt (m : Mo) (h : m.1.length = m.2.length + 1) (a now : Nat) : matN m a now < 2 ^ (m.2.length + 1) := by
 unfold matN
 refine Nat.or_lt_two_pow (Nat.and_lt_two_pow _ (by rw [← h]; exact stayF_lt m.1 a _)) ?_
 have : (now &&& stepF m.2 a m.2.length) < 2 ^ m.2.length := Nat.and_lt_two_pow _ (stepF_lt m.2 a _)
 rw [Nat.pow_succ]
 omega
theorem matW_lt (m : Mo) (h : m.1.length = m.2.length + 1) (w : List Nat) : matW m w < 2 ^ (m.2.length + 1) := by
 unfold matW
 suffices ∀ (w : List Nat) (s : Nat), s < 2 ^ (m.2.length + 1) → w.foldl (fun s a => matN m a s) s < 2 ^ (m.2.length + 1) from this w 1 (by
  have : 0 < 2 ^ m.2.length := Nat.pow_pos (by omega)
  rw [Nat.pow_succ]; omega)
 intro w
 induction w with
 | nil => intro s hs; exact hs
 | cons a r ih => intro s hs; exact ih _ (matN_lt m h a s)
theorem matW_succ (m : Mo) {w : List Nat} {k : Nat} (h : k < w.length) : matW m (w.take (k + 1)) = matN m w[k] (matW m (w.take k)) := by
 unfold matW
 rw [List.take_succ_eq_append_getElem h, List.foldl_append]
 rfl
theorem mat_step (m : Mo) (h : MoOK 6 60 m) (a s : Nat) (hs : s < 2 ^ (m.2.length + 1)) : ∃ x y z : Nat, andI .u64 (s : Int) (stayF m.1 a m.1.length : Nat) = x ∧ andI .u64 (s : Int) (stepF m.2 a m.2.length : Nat) = y ∧ shlI .u64 (y : Int) 1 = z ∧ orI .u64 (x : Int) (z : Int) = (matN m a s : Nat) := by
 have h1 := h.sl
 have h2 := h.ll
 have q1 := stayF_lt m.1 a m.1.length
 have q2 := stepF_lt m.2 a m.2.length
 rw [h1] at q1
 have q3 : (2 : Nat) ^ (m.2.length + 1) ≤ 2 ^ 61 := Nat.pow_le_pow_right (by omega) (by omega)
 have q4 : (2 : Nat) ^ m.2.length ≤ 2 ^ 60 := Nat.pow_le_pow_right (by omega) (by omega)
 have hx : s &&& stayF m.1 a m.1.length < 2 ^ 61 := Nat.and_lt_two_pow _ (by rw [h1]; omega)
 have hy : s &&& stepF m.2 a m.2.length < 2 ^ 60 := Nat.and_lt_two_pow _ (by omega)
 refine ⟨_, _, (s &&& stepF m.2 a m.2.length) * 2, andN (by omega) (by rw [h1]; omega), andN (by omega) (by omega), ?_, ?_⟩
 ·exact shlN (k := 1) (by omega) (by omega)
 ·rw [orN (by omega) (by omega)]
  rfl
set_option maxRecDepth 100000 in
set_option maxHeartbeats 4000000 in
theorem match_fn {m : Mo} {w : List Nat} (h : MoOK 6 60 m) (hw : ∀ x ∈ w, x < 6) (hwl : w.length ≤ 2048) : FnA Tryd.prog 12 [moV 0 m, .t 2 (.str (strL w))] (.t 2 (.bool (matB m w))) := by
 have hs := h.sl
 have hl := h.ll
 refine fn_intro Tryd.func12 rfl (by simp [Tryd.f12]) ?_
 rw [show Tryd.f12.ntmps = 50 from rfl, show Tryd.f12.results = #[.tmp 4] from rfl]
 refine awp_seqR fun K hK => ?_
 simp (maxSteps := 2000000) (disch := omega) [ints, rows, scal, wr64, wr8, moV]
 (repeat' first | apply hK | apply And.intro) <;> try first | (show okH _ _ _ = true; kernel_rfl) | omega | rfl | (simp <;> omega)
 refine awp_seq ?_
 refine awp_seqR fun K hK => ?_
 simp (maxSteps := 2000000) (disch := omega) [ints, rows, scal, wr64, wr8]
 (repeat' apply And.intro)
 all_goals (try omega)
 refine call_rule (caps := []) (mvalidate_fn (L := 6) h (by omega) (by omega)) [] [] 2 rfl rfl rfl rfl (by kernel_rfl) (by simp) ?_ trivial trivial rfl trivial trivial (by simp) ?_
 ·simp [scal, rows, ints, moV]
 simp (maxSteps := 2000000) (disch := omega) [ints, rows, scal, wr64, wr8]
 (repeat' apply And.intro)
 all_goals (try omega)
 refine call_rule (caps := []) (wordValid_fn (L := 6) hw (by omega) (by omega) hwl) [] [] 2 (by simp [scal, rows, ints]) rfl rfl rfl (by kernel_rfl) (by simp) ?_ trivial trivial rfl trivial trivial (by simp) ?_
 ·simp [scal, rows, ints]
 simp (maxSteps := 2000000) (disch := omega) [ints, rows, scal, wr64, wr8]
 (repeat' first | apply hK | apply And.intro) <;> try first | (show okH _ _ _ = true; kernel_rfl) | omega | rfl | (simp <;> omega)
 refine awp_cond (b := false) (p := 2) (by simp [scal] <;> omega) ?_
 refine awp_skip ?_
 show awp _ _ _ _
 refine awp_seqR fun K hK => ?_
 simp (maxSteps := 2000000) (disch := omega) [ints, rows, scal, wr64, wr8]
 (repeat' apply And.intro)
 all_goals (try omega)
 refine call_rule (caps := []) (movesOf_fn h) [] [] 2 rfl rfl rfl rfl (by kernel_rfl) (by simp) ?_ trivial trivial rfl trivial trivial (by simp) ?_
 ·simp [scal, rows, ints, moV]
 simp (maxSteps := 2000000) (disch := omega) [ints, rows, scal, wr64, wr8, mvT_eq]
 (repeat' first | apply hK | apply And.intro) <;> try first | (show okH _ _ _ = true; kernel_rfl) | omega | rfl | (simp <;> omega)
 refine awp_seqR fun K hK => ?_
 simp (maxSteps := 2000000) (disch := omega) [ints, rows, scal, wr64, wr8]
 (repeat' first | apply hK | apply And.intro) <;> try first | (show okH _ _ _ = true; kernel_rfl) | omega | rfl | (simp <;> omega)
 refine awp_seq ?_
 refine awp_seqR fun K hK => ?_
 simp (maxSteps := 2000000) (disch := omega) [ints, rows, scal, wr64, wr8]
 (repeat' first | apply hK | apply And.intro) <;> try first | (show okH _ _ _ = true; kernel_rfl) | omega | rfl | (simp <;> omega)
 refine awp_block ?_
 refine awp_loop (fun y : Nat => mkS [(1, .t 2 (.str (strL w))), (2, .ptr 0 0 2), (5, .ptr 1 0 12), (6, .t 2 (.int .u64 (matW m (w.take y) : Nat))), (20, .t 2 (.int .i64 w.length)), (21, .t 2 (.int .i64 y))] [(0, .box 37 [.t 0 (ints (nI m.1)), .t 0 (ints (nI m.2))]), (1, .box 76 (mvT (mvF m m.1.length m.2.length)))] 2 50 [.any, .any]) (fun y => y ≤ w.length) (fun y => w.length - y) ?_ ?_
 ·refine ⟨0, by omega, ?_⟩
  refine wk_list [(0, some 0), (1, some 12000000)] rfl ?_ ?_ ?_ ?_
  all_goals try simp [ints, mvT_eq, matW]
 intro y hI
 refine awp_seqR fun K hK => ?_
 simp (maxSteps := 2000000) (disch := omega) [ints, rows, scal, wr64, wr8]
 (repeat' first | apply hK | apply And.intro) <;> try first | (show okH _ _ _ = true; kernel_rfl) | omega | rfl | (simp <;> omega)
 refine awp_seq ?_
 by_cases hc : y < w.length
 ·refine awp_cond (b := true) (p := 2) (by simp [scal, hc] <;> omega) ?_
  have hy := hw w[y] (by simp)
  refine awp_skip ?_
  show awp _ _ _ _
  refine awp_seq ?_
  refine awp_block ?_
  refine awp_seqR fun K hK => ?_
  simp (maxSteps := 2000000) (disch := omega) [ints, rows, scal, wr64, wr8]
  (repeat' first | apply hK | apply And.intro) <;> try first | (show okH _ _ _ = true; kernel_rfl) | omega | rfl | (simp <;> omega)
  have e0 := byteAt_strL hc (by omega)
  have e2 : IntKind.u8.wrap (97 + (w[y] : Int) - 97) = w[y] := by rw [sub97, wr8 _ (by omega) (by omega)]
  refine awp_seqR fun K hK => ?_
  simp (maxSteps := 2000000) (disch := omega) [ints, rows, scal, wr64, wr8, e0, e2, hc]
  (repeat' first | apply hK | apply And.intro) <;> try first | (show okH _ _ _ = true; kernel_rfl) | omega | rfl | (simp <;> omega)
  obtain ⟨x, z, u, k1, k2, k3, k4⟩ := mat_step m h w[y] _ (matW_lt m hs (w.take y))
  have f1 : mvF m m.1.length m.2.length w[y] = stayF m.1 w[y] m.1.length := by
   unfold mvF; rw [if_pos hy]
  have f2 : mvF m m.1.length m.2.length (6 + w[y]) = stepF m.2 w[y] m.2.length := by
   unfold mvF; rw [if_neg (by omega), show 6 + w[y] - 6 = w[y] by omega]
  have f3 : w[y] < 12 := by omega
  have f4 : 6 + w[y] < 12 := by omega
  refine awp_RD (by kernel_rfl) (fun K hK => ?_)
  simp (maxSteps := 2000000) (disch := omega) [ints, rows, scal, wr64, wr8, mvT_get, f1, f2, f3, f4, hy, k1, k2, k3, k4]
  (repeat' first | apply hK | apply And.intro) <;> try first | (show chkD _ _ = true; kernel_rfl) | (show okH _ _ _ = true; kernel_rfl) | omega | rfl | (simp <;> omega)
  show awp _ _ _ _
  refine awp_R fun K hK => ?_
  simp (maxSteps := 2000000) (disch := omega) [ints, rows, scal, wr64, wr8]
  (repeat' first | apply hK | apply And.intro) <;> try first | (show okH _ _ _ = true; kernel_rfl) | omega | rfl | (simp <;> omega)
  refine ⟨y + 1, by omega, by omega, ?_⟩
  refine wk_list [(0, some 0), (1, some 1)] rfl ?_ ?_ ?_ ?_
  all_goals try simp [ints, matW_succ m hc, mvT_wk]
 ·refine awp_cond (b := false) (p := 2) (by simp [scal, hc] <;> omega) ?_
  have hy : w.take y = w := List.take_of_length_le (by omega)
  have hlt := matW_lt m hs w
  have q3 : (2 : Nat) ^ (m.2.length + 1) ≤ 2 ^ 61 := Nat.pow_le_pow_right (by omega) (by omega)
  obtain ⟨q, hq, hq2⟩ : ∃ q : Nat, shrI .u64 (matW m w : Nat) (m.2.length : Int) = q ∧ q = matW m w / 2 ^ m.2.length := ⟨_, shrN (by show m.2.length ≤ 64; omega), rfl⟩
  have hq3 : q < 18446744073709551616 := by
   rw [hq2]
   exact Nat.lt_of_le_of_lt (Nat.div_le_self _ _) (by omega)
  have hb : andI .u64 (q : Int) 1 = ((q % 2 : Nat) : Int) := by
   have := andN hq3 (show 1 < 18446744073709551616 by omega)
   rw [Nat.and_one_is_mod] at this
   exact this
  obtain ⟨t, ht⟩ : ∃ t, t = q % 2 := ⟨_, rfl⟩
  rw [← ht] at hb
  refine awp_exit ?_
  show awp _ _ _ _
  refine awp_seqR fun K hK => ?_
  simp (maxSteps := 2000000) (disch := omega) [ints, rows, scal, wr64, wr8, hy, hq, hb]
  (repeat' first | apply hK | apply And.intro) <;> try first | (show okH _ _ _ = true; kernel_rfl) | omega | rfl | (simp <;> omega)
  refine awp_ret ?_
  refine ⟨⟨.inr rfl, _, [], rfl, trivial, trivial, by simp [moV], ?_⟩, by simp [moV]⟩
  simp [moV]
  unfold matB
  rw [← hq2, ← ht, Bool.eq_iff_iff]
  simp
  omega

set_option linter.unusedSimpArgs false

theorem stayF_bit (ss : List Nat) (a : Nat) : ∀ k j, (stayF ss a k).testBit j = (decide (j < k) && (ss.getD j 0).testBit a)
 | 0, j => by simp [stayF]
 | k + 1, j => by
  unfold stayF
  rw [Nat.testBit_or, stayF_bit ss a k j]
  have h2 : ss.getD k 0 / 2 ^ a % 2 < 2 := Nat.mod_lt _ (by omega)
  have hb : (ss.getD k 0).testBit a = decide (ss.getD k 0 / 2 ^ a % 2 = 1) := Nat.testBit_eq_decide_div_mod_eq
  generalize ss.getD k 0 / 2 ^ a % 2 = b at *
  have hm : (b * 2 ^ k).testBit j = (decide (j = k) && decide (b = 1)) := by
   rcases (by omega : b = 0 ∨ b = 1) with rfl | rfl
   ·simp
   ·rw [Nat.one_mul, Nat.testBit_two_pow]
    simp [eq_comm]
  rw [hm]
  by_cases e : j = k
  ·subst e
   rw [hb]
   simp
  ·by_cases e2 : j < k
   ·simp [e, e2, show j < k + 1 by omega]
   ·simp [e, e2, show ¬ j < k + 1 by omega]
theorem stepF_bit (ls : List Nat) (a : Nat) : ∀ k j, (stepF ls a k).testBit j = (decide (j < k) && decide (ls.getD j 6 = a))
 | 0, j => by simp [stepF]
 | k + 1, j => by
  unfold stepF
  by_cases h : ls.getD k 6 = a
  ·rw [if_pos h, Nat.testBit_or, stepF_bit ls a k j, Nat.testBit_two_pow]
   by_cases e : k = j
   ·subst e; rw [show decide (ls.getD k 6 = a) = true from decide_eq_true h]; simp
   ·by_cases e2 : j < k
    ·simp [e, e2, show j < k + 1 by omega]
    ·simp [e, e2, show ¬ j < k + 1 by omega]
  ·rw [if_neg h, stepF_bit ls a k j]
   by_cases e : k = j
   ·subst e; rw [show decide (ls.getD k 6 = a) = false from decide_eq_false h]; simp
   ·by_cases e2 : j < k
    ·simp [e2, show j < k + 1 by omega]
    ·simp [e2, show ¬ j < k + 1 by omega]
def accM (m : Mo) : List Nat → Nat → Bool
 | [], p => decide (p = m.2.length)
 | a :: w, p => ((m.1.getD p 0).testBit a && accM m w p) || (decide (m.2.getD p 6 = a) && decide (p < m.2.length) && accM m w (p + 1))
theorem two_bit (x j : Nat) : (x * 2).testBit j = (decide (1 ≤ j) && x.testBit (j - 1)) := by
 have h : x * 2 = x <<< 1 := by rw [Nat.shiftLeft_eq]
 rw [h, Nat.testBit_shiftLeft]
theorem matN_bit (m : Mo) (h : m.1.length = m.2.length + 1) (a s j : Nat) : (matN m a s).testBit j = true ↔ (s.testBit j = true ∧ j ≤ m.2.length ∧ (m.1.getD j 0).testBit a = true) ∨ ∃ i, j = i + 1 ∧ s.testBit i = true ∧ i < m.2.length ∧ m.2.getD i 6 = a := by
 unfold matN
 rw [Nat.testBit_or, two_bit, Nat.testBit_and, Nat.testBit_and, stayF_bit, stepF_bit, h]
 simp only [Bool.or_eq_true, Bool.and_eq_true, decide_eq_true_eq]
 constructor
 ·rintro (⟨h1, h2, h3⟩ | ⟨h1, h2, h3, h4⟩)
  ·exact .inl ⟨h1, by omega, h3⟩
  ·exact .inr ⟨j - 1, by omega, h2, h3, h4⟩
 ·rintro (⟨h1, h2, h3⟩ | ⟨i, rfl, h2, h3, h4⟩)
  ·exact .inl ⟨h1, by omega, h3⟩
  ·exact .inr ⟨by omega, by simpa using h2, by simpa using h3, by simpa using h4⟩
def LM (m : Mo) (s : Nat) (w : List Nat) : Prop := ∃ p, p ≤ m.2.length ∧ s.testBit p = true ∧ accM m w p = true
theorem LM_step {m : Mo} (h : m.1.length = m.2.length + 1) (a s : Nat) (w : List Nat) : LM m (matN m a s) w ↔ LM m s (a :: w) := by
 constructor
 ·rintro ⟨p, h1, h2, h3⟩
  rcases (matN_bit m h a s p).1 h2 with ⟨g1, g2, g3⟩ | ⟨i, rfl, g2, g3, g4⟩
  ·exact ⟨p, h1, g1, by simp only [accM, g3, h3, Bool.and_self, Bool.true_or]⟩
  ·exact ⟨i, by omega, g2, by simp only [accM, g3, g4, h3, decide_true, Bool.and_self, Bool.or_true]⟩
 ·rintro ⟨p, h1, h2, h3⟩
  simp only [accM, Bool.or_eq_true, Bool.and_eq_true, decide_eq_true_eq] at h3
  rcases h3 with ⟨g1, g2⟩ | ⟨⟨g1, g2⟩, g3⟩
  ·exact ⟨p, h1, (matN_bit m h a s p).2 (.inl ⟨h2, h1, g1⟩), g2⟩
  ·exact ⟨p + 1, by omega, (matN_bit m h a s (p + 1)).2 (.inr ⟨p, rfl, h2, g2, g1⟩), g3⟩
theorem LM_fold {m : Mo} (h : m.1.length = m.2.length + 1) : ∀ (w u : List Nat) (s : Nat), LM m (w.foldl (fun s a => matN m a s) s) u ↔ LM m s (w ++ u)
 | [], u, s => Iff.rfl
 | a :: w, u, s => by
  rw [List.foldl_cons, LM_fold h w u, LM_step h]
  rfl
theorem LM_one (m : Mo) (w : List Nat) : LM m 1 w ↔ accM m w 0 = true := by
 constructor
 ·rintro ⟨p, h1, h2, h3⟩
  have : p = 0 := by
   by_cases e : p = 0
   ·exact e
   ·rw [show (1 : Nat) = 2 ^ 0 from rfl, Nat.testBit_two_pow] at h2
    simp at h2
    omega
  subst this
  exact h3
 ·intro h
  exact ⟨0, by omega, by decide, h⟩
theorem matB_acc {m : Mo} (h : m.1.length = m.2.length + 1) (w : List Nat) : matB m w = accM m w 0 := by
 rw [Bool.eq_iff_iff]
 have h1 := LM_fold h w [] 1
 rw [List.append_nil, LM_one] at h1
 rw [← h1]
 unfold matB
 rw [decide_eq_true_eq]
 have h2 : (matW m w).testBit m.2.length = decide (matW m w / 2 ^ m.2.length % 2 = 1) := Nat.testBit_eq_decide_div_mod_eq
 constructor
 ·intro h3
  refine ⟨m.2.length, by omega, ?_, by simp [accM]⟩
  have : (matW m w).testBit m.2.length = true := by rw [h2]; simpa using h3
  exact this
 ·rintro ⟨p, g1, g2, g3⟩
  simp only [accM, decide_eq_true_eq] at g3
  subst g3
  have g2 : (matW m w).testBit m.2.length = true := g2
  rw [h2] at g2
  simpa using g2
def nrm (f s : Nat) : Nat := bif (s &&& f) == 0 then s else s / 2 ^ (s &&& f).log2 * 2 ^ (s &&& f).log2
abbrev Mk := Nat × Nat × Nat × Nat × Nat
def Mk.s0 (k : Mk) : Nat := k.1
def Mk.p0 (k : Mk) : Nat := k.2.1
def Mk.s1 (k : Mk) : Nat := k.2.2.1
def Mk.p1 (k : Mk) : Nat := k.2.2.2.1
def Mk.f (k : Mk) : Nat := k.2.2.2.2
def n0 (k : Mk) (s : Nat) : Nat := nrm k.f ((s &&& k.s0) ||| (s &&& k.p0) * 2)
def n1 (k : Mk) (s : Nat) : Nat := nrm k.f ((s &&& k.s1) ||| (s &&& k.p1) * 2)
def bfs (f g : Nat → Nat) : Nat → List Nat → List Nat → Nat → List Nat
 | 0, _, done, _ => done
 | _ + 1, [], done, _ => done
 | n + 1, x :: todo, done, V =>
  bif V.testBit (f x) then
   bif V.testBit (g x) then bfs f g n todo (x :: done) V
   else bfs f g n (g x :: todo) (x :: done) (V ||| 2 ^ g x)
  else
   bif (V ||| 2 ^ f x).testBit (g x) then bfs f g n (f x :: todo) (x :: done) (V ||| 2 ^ f x)
   else bfs f g n (g x :: f x :: todo) (x :: done) (V ||| 2 ^ f x ||| 2 ^ g x)
def bitsL (l : List Nat) : Nat := l.foldl (fun v x => v ||| 2 ^ x) 0
def cl (f g : Nat → Nat) (s : Nat) (l : List Nat) : Bool := let V := bitsL l; V.testBit s && l.all fun x => V.testBit (f x) && V.testBit (g x)
def r1 (k : Mk) : List Nat := bfs (n0 k) (n1 k) 16 [nrm k.f 1] [] (2 ^ nrm k.f 1)
def q0 (k l : Mk) (p : Nat) : Nat := n0 k (p / 16) * 16 + n0 l (p % 16)
def q1 (k l : Mk) (p : Nat) : Nat := n1 k (p / 16) * 16 + n1 l (p % 16)
def r2 (k l : Mk) : List Nat := bfs (q0 k l) (q1 k l) 121 [nrm k.f 1 * 16 + nrm l.f 1] [] (2 ^ (nrm k.f 1 * 16 + nrm l.f 1))
def lists (n : Nat) : Nat → List (List Nat)
 | 0 => [[]]
 | k + 1 => (lists n k).flatMap fun l => (List.range n).map fun x => x :: l
theorem nodup_len {α : Type} [DecidableEq α] : ∀ {l s : List α}, l.Nodup → (∀ x ∈ l, x ∈ s) → l.length ≤ s.length
 | [], s, _, _ => by simp
 | x :: l, s, h, hs => by
  rw [List.nodup_cons] at h
  have hx : x ∈ s := hs x (by simp)
  have := nodup_len (l := l) (s := s.erase x) h.2 (fun y hy => by
   have hne : y ≠ x := fun e => h.1 (e ▸ hy)
   exact (List.mem_erase_of_ne hne).2 (hs y (by simp [hy])))
  rw [List.length_erase_of_mem hx] at this
  have : 0 < s.length := List.length_pos_of_mem hx
  simp only [List.length_cons]
  omega
theorem map_nodup {α β γ : Type} {l : List α} {f : α → β} {g : α → γ} (h : (l.map f).Nodup) (hfg : ∀ x ∈ l, ∀ y ∈ l, g x = g y → f x = f y) : (l.map g).Nodup := by
 induction l with
 | nil => simp
 | cons x r ih =>
  rw [List.map_cons, List.nodup_cons] at h ⊢
  refine ⟨fun hm => ?_, ih h.2 (fun a ha b hb => hfg a (by simp [ha]) b (by simp [hb]))⟩
  obtain ⟨y, hy, e⟩ := List.mem_map.1 hm
  exact h.1 (List.mem_map.2 ⟨y, hy, (hfg y (by simp [hy]) x (by simp) e)⟩)
end Go.Proofs.YtnffigeofdagfaaDoor.M
