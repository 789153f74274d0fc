/-
  Walks in my logic: points, Valid, Members, Image (relation), states (nfa).
-/
import Derived.Test.YtnffigeofdagfaaDoorZrbl
import Derived.Test.YtnffigeofdagfaaDoorZrbm
import Derived.Test.YtnffigeofdagfaaDoorZrav
namespace Go.Proofs.YtnffigeofdagfaaDoor.M
open Go.RowKit
set_option linter.unusedVariables false
attribute [local simp] KL_ap KD_ap awpL_nil awpL_cons awpD_nil awpD_cons awpOp awpOpD wrE gd aop aBuiltin aNil aMin ASt.eval AV.ofV dstOk ASt.app Eff.heap dels upd_b aLoad aStore aField aFieldV aIndexAddr aIndex aSlice aSliceO aLen aBin iB sB aUn aConv aAlloc aBox aBuild afill avCells AV.leaf setR aBuildSlice frz frzL isOwn vecOf tsOf aMake srcOf aAppend aMkMap aMapUpd aLookup oint cut putL AObj.cnt mkS envOf_nil envOf_cons heapOf_nil heapOf_cons argS Nat.blt_eq callS outV outVs outO heap2 addL delL List.getElem?_cons_zero ghA ghA1 wkPs wkP unm wkE wkH wkO keysNd mpOf_nil mpOf_cons okO inPs inP
set_option linter.unusedSimpArgs false

def u64T (r : List Nat) : List T := r.map fun (x : Nat) => .int .u64 (x : Int)
@[simp] theorem u64T_len (r : List Nat) : (u64T r).length = r.length := by simp [u64T]
theorem u64T_at {r : List Nat} {i : Nat} (h : i < r.length) : (u64T r)[i]? = some (.int .u64 (r[i] : Int)) := by simp [u64T, h]
theorem full_bit (n q : Nat) : (2 ^ n - 1).testBit q = decide (q < n) := Nat.testBit_two_pow_sub_one n q
theorem andn_full {x n : Nat} (hx : x < 2 ^ n) (hn : n ≤ 63) : andnI .u64 (x : Int) ((2 ^ n - 1 : Nat) : Int) = 0 := by
 have h64 : 2 ^ n ≤ 2 ^ 63 := Nat.pow_le_pow_right (by omega) hn
 have hz : (BitVec.ofInt IntKind.u64.bits (x : Int) &&& ~~~ BitVec.ofInt IntKind.u64.bits ((2 ^ n - 1 : Nat) : Int)).toNat = 0 := by
  apply Nat.eq_of_testBit_eq
  intro j
  show (BitVec.ofInt 64 (x : Int) &&& ~~~ BitVec.ofInt 64 ((2 ^ n - 1 : Nat) : Int)).toNat.testBit j = _
  rw [BitVec.testBit_toNat, BitVec.getLsbD_and, BitVec.getLsbD_not, BitVec.ofInt_natCast, BitVec.ofInt_natCast, BitVec.getLsbD_ofNat, BitVec.getLsbD_ofNat, full_bit]
  by_cases hj : j < n
  ·simp [hj]
  ·have : x.testBit j = false := Nat.testBit_lt_two_pow (Nat.lt_of_lt_of_le hx (Nat.pow_le_pow_right (by omega) (by omega)))
   simp [this]
 unfold andnI
 rw [hz]
 rfl
set_option maxRecDepth 100000 in
theorem points_fn {n : Nat} (hn : n ≤ 63) : FnA Tryd.prog 134 [.t 2 (.int .i64 n)] (.t 2 (.int .u64 (2 ^ n - 1 : Nat))) := by
 have h1 := shl_bit (i := n) (by omega)
 have hb := bit_lt (i := n) (by omega)
 obtain ⟨c, hc⟩ : ∃ c, c = 2 ^ n - 1 := ⟨_, rfl⟩
 have hp : 0 < 2 ^ n := Nat.two_pow_pos n
 have h2 : IntKind.u64.wrap (((2 ^ n : Nat) : Int) - 1) = (c : Int) := by
  rw [show (((2 ^ n : Nat) : Int) - 1) = (c : Int) by omega, wrN (by omega)]
 rw [← hc]
 generalize 2 ^ n = b at *
 refine fn_intro Tryd.func134 rfl (by simp [Tryd.f134]) ?_
 rw [show Tryd.f134.ntmps = 6 from rfl, show Tryd.f134.results = #[.tmp 2] from rfl]
 refine awp_seqR fun K hK => ?_
 simp (disch := omega) [ints, rows, scal, wr64, wr8]
 (repeat' first | apply hK | apply And.intro) <;> try first | (show okH _ _ _ = true; kernel_rfl) | omega | rfl | (simp <;> omega)
 refine awp_seqR fun K hK => ?_
 simp (disch := omega) [ints, rows, scal, wr64, wr8, h1, h2]
 (repeat' first | apply hK | apply And.intro) <;> try first | (show okH _ _ _ = true; kernel_rfl) | omega | rfl | (simp <;> omega)
 refine awp_ret ?_
 refine ⟨⟨.inr rfl, _, [], rfl, trivial, trivial, by simp, ?_⟩, by simp⟩
 simp
set_option maxRecDepth 100000 in
theorem nstates_fn {n : Nat} (hn : n ≤ 63) : FnA Tryd.prog 107 [.t 2 (.int .i64 n)] (.t 2 (.int .u64 (2 ^ n - 1 : Nat))) := by
 have h1 := shl_bit (i := n) (by omega)
 have hb := bit_lt (i := n) (by omega)
 obtain ⟨c, hc⟩ : ∃ c, c = 2 ^ n - 1 := ⟨_, rfl⟩
 have hp : 0 < 2 ^ n := Nat.two_pow_pos n
 have h2 : IntKind.u64.wrap (((2 ^ n : Nat) : Int) - 1) = (c : Int) := by
  rw [show (((2 ^ n : Nat) : Int) - 1) = (c : Int) by omega, wrN (by omega)]
 rw [← hc]
 generalize 2 ^ n = b at *
 refine fn_intro Tryd.func107 rfl (by simp [Tryd.f107]) ?_
 rw [show Tryd.f107.ntmps = 6 from rfl, show Tryd.f107.results = #[.tmp 2] from rfl]
 refine awp_seqR fun K hK => ?_
 simp (disch := omega) [ints, rows, scal, wr64, wr8]
 (repeat' first | apply hK | apply And.intro) <;> try first | (show okH _ _ _ = true; kernel_rfl) | omega | rfl | (simp <;> omega)
 refine awp_seqR fun K hK => ?_
 simp (disch := omega) [ints, rows, scal, wr64, wr8, h1, h2]
 (repeat' first | apply hK | apply And.intro) <;> try first | (show okH _ _ _ = true; kernel_rfl) | omega | rfl | (simp <;> omega)
 refine awp_ret ?_
 refine ⟨⟨.inr rfl, _, [], rfl, trivial, trivial, by simp, ?_⟩, by simp⟩
 simp
set_option maxRecDepth 100000 in
set_option maxHeartbeats 4000000 in
theorem members_fn {S : Nat} (hS : S < 18446744073709551616) : ∃ res, (∃ l : List Nat, (∀ q, q ∈ l ↔ S.testBit q = true) ∧ l.length ≤ 64 ∧ (∀ q ∈ l, q < 64) ∧ res = .t 2 (.sl 1 (natsT l))) ∧ FnS Tryd.prog 133 [.t 2 (.int .u64 (S : Nat))] [] res [] := by
 refine fn_introE Tryd.func133 rfl (by simp [Tryd.f133]) ?_
 rw [show Tryd.f133.ntmps = 16 from rfl, show Tryd.f133.results = #[.tmp 2] from rfl]
 refine awp_seqR fun K hK => ?_
 simp (disch := omega) [ints, rows, scal, wr64, wr8]
 (repeat' first | apply hK | apply And.intro) <;> try first | (show okH _ _ _ = true; kernel_rfl) | omega | rfl | (simp <;> omega)
 refine awp_seqR fun K hK => ?_
 simp (disch := omega) [ints, rows, scal, wr64, wr8]
 (repeat' first | apply hK | apply And.intro) <;> try first | (show okH _ _ _ = true; kernel_rfl) | omega | rfl | (simp <;> omega)
 refine awp_seq ?_
 refine awp_block ?_
 refine awp_loop (fun y : Nat × List Nat => mkS [(0, .t 2 (.int .u64 (y.1 : Nat))), (3, .own 0 y.2.length)] [(0, .row 3 1 2 (natsT y.2))] 1 16 [.any])
  (fun y => y.1 < 18446744073709551616 ∧ y.2.Nodup ∧ (∀ q ∈ y.2, q < 64 ∧ y.1.testBit q = false) ∧ ∀ q, (q ∈ y.2 ∨ y.1.testBit q = true) ↔ S.testBit q = true) (fun y => y.1) ?_ ?_
 ·refine ⟨(S, []), ⟨hS, by simp, by simp, by simp⟩, ?_⟩
  refine wk_list [(0, none)] rfl ?_ ?_ ?_ ?_
  all_goals try simp [ints, natsT]
 rintro ⟨x, l⟩ ⟨hx, hnd, hlt, hmem⟩
 simp only at hx hnd hlt hmem
 have hll : l.length ≤ 64 := nodupLe hnd (fun q hq => (hlt q hq).1)
 refine awp_seq ?_
 by_cases h0 : x = 0
 ·have h0i : (x : Int) = 0 := by omega
  refine awp_seqR fun K hK => ?_
  simp (disch := omega) [ints, rows, scal, wr64, wr8, h0i, h0]
  (repeat' first | apply hK | apply And.intro) <;> try first | (show okH _ _ _ = true; kernel_rfl) | omega | rfl | (simp <;> omega)
  refine awp_cond (b := false) (p := 2) (by simp [scal, h0i, h0] <;> omega) ?_
  refine awp_exit ?_
  show awp _ _ _ _
  refine awp_seqR fun K hK => ?_
  simp (disch := omega) [ints, rows, scal, wr64, wr8]
  (repeat' first | apply hK | apply And.intro) <;> try first | (show okH _ _ _ = true; kernel_rfl) | omega | rfl | (simp <;> omega)
  refine awp_ret ?_
  refine ⟨_, ⟨l, fun q => by rw [← hmem q, h0]; simp, hll, fun q hq => (hlt q hq).1, rfl⟩, ?_⟩
  refine ⟨⟨.inr rfl, _, [], rfl, trivial, trivial, by simp, ?_⟩, by simp⟩
  simp
 ·have h0i : ¬ (x : Int) = 0 := by omega
  obtain ⟨c, hc1, hc2, hc3, hc4, hc5⟩ := clear_low h0 hx
  have htz := tz_fn hx h0
  rw [← hc1] at htz
  have hw : IntKind.u64.wrap ((x : Int) - 1) = ((x - 1 : Nat) : Int) := by
   rw [show ((x : Int) - 1) = ((x - 1 : Nat) : Int) by omega, wrN (by omega)]
  have ha := andN (x := x) (y := x - 1) hx (by omega)
  generalize x - 1 = x1 at hw ha hc4 hc5
  refine awp_seqR fun K hK => ?_
  simp (disch := omega) [ints, rows, scal, wr64, wr8, h0i, h0]
  (repeat' first | apply hK | apply And.intro) <;> try first | (show okH _ _ _ = true; kernel_rfl) | omega | rfl | (simp <;> omega)
  refine awp_cond (b := true) (p := 2) (by simp [scal, h0i, h0] <;> omega) ?_
  refine awp_skip ?_
  show awp _ _ _ _
  refine awp_seq ?_
  refine awp_block ?_
  refine awp_R fun K hK => ?_
  simp (disch := omega) [ints, rows, scal, wr64, wr8]
  (repeat' apply And.intro)
  all_goals (try omega)
  refine call_rule (caps := []) (htz) [] [] 2 rfl rfl rfl rfl (by kernel_rfl) (by simp) ?_ trivial trivial rfl trivial trivial (by simp) ?_
  ·simp [scal, rows, ints]
  simp (disch := omega) [ints, rows, scal, wr64, wr8]
  (repeat' first | apply hK | apply And.intro) <;> try first | (show okH _ _ _ = true; kernel_rfl) | omega | rfl | (simp <;> omega)
  show awp _ _ _ _
  refine awp_R fun K hK => ?_
  simp (disch := omega) [ints, rows, scal, wr64, wr8, hw, ha]
  (repeat' first | apply hK | apply And.intro) <;> try first | (show okH _ _ _ = true; kernel_rfl) | omega | rfl | (simp <;> omega)
  refine ⟨(x &&& x1, l ++ [c]), ⟨by simp only; omega, nodup_snoc hnd (fun g => by have := (hlt c g).2; rw [hc3] at this; cases this), fun q hq => ?_, fun q => ?_⟩, by simp only; omega, ?_⟩
  ·rcases List.mem_append.1 hq with g | g
   ·exact ⟨(hlt q g).1, by rw [hc4, (hlt q g).2]; rfl⟩
   ·simp only [List.mem_singleton] at g
    subst g
    exact ⟨hc2, by rw [hc4]; simp⟩
  ·rw [← hmem q, hc4, List.mem_append, List.mem_singleton]
   by_cases e : q = c
   ·subst e; simp [hc3]
   ·simp [e]
  ·refine wk_list [(0, some 0)] rfl ?_ ?_ ?_ ?_
   all_goals try simp [ints, natsT]
end Go.Proofs.YtnffigeofdagfaaDoor.M
