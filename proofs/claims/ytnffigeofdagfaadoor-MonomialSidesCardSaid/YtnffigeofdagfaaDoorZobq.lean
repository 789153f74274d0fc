/-
  Walk in my logic: ToNFA (dfa).
  Walk in my logic: Reverse (nfa).
  Walks in my logic: Subset (dfa), language, minimal, Reverse (lang).
  Walks in my logic: Bit, Below, Has (semigroupref02), before, Step, Validate (semigroupref06).
  Walk in my logic: Validate (semigroupref06).
  Walk in my logic: Sorted (semigroupref06).
  Walks in my logic: begin (semigroupref10), Reverse (semigroupref06).
  Walk in my logic: Subset (semigroupref07).
  Walks in my logic: of, Reverse (semigroupref10).
-/
import Derived.Test.YtnffigeofdagfaaDoorZobp
import Derived.Test.YtnffigeofdagfaaDoorZoai
import Derived.Test.YtnffigeofdagfaaDoorZoaw
import Derived.Test.YtnffigeofdagfaaDoorZoap
import Derived.Test.YtnffigeofdagfaaDoorZobf
namespace Go.Proofs.YtnffigeofdagfaaDoor.M
open Go.RowKit
set_option linter.unusedVariables false
attribute [local simp] KL_ap KD_ap awpL_nil awpL_cons awpD_nil awpD_cons awpOp awpOpD wrE gd aop aBuiltin aNil aMin ASt.eval AV.ofV dstOk ASt.app Eff.heap dels upd_b aLoad aStore aField aFieldV aIndexAddr aIndex aSlice aSliceO aLen aBin iB sB aUn aConv aAlloc aBox aBuild afill avCells AV.leaf setR aBuildSlice frz frzL isOwn vecOf tsOf aMake srcOf aAppend aMkMap aMapUpd aLookup oint cut putL AObj.cnt mkS envOf_nil envOf_cons heapOf_nil heapOf_cons argS Nat.blt_eq callS outV outVs outO heap2 addL delL List.getElem?_cons_zero okO inPs inP wkE wkP wkPs wkH wkO keysNd unm mpOf_nil mpOf_cons ghA ghA1 resV
set_option linter.unusedSimpArgs false

def rowE (nx : List (List Int)) (p x : Nat) : List Ed := (List.range x).map fun a => (p, a, stepR nx p a)
def toE (L : Nat) (nx : List (List Int)) : Nat → List Ed
 | 0 => []
 | p + 1 => toE L nx p ++ rowE nx p L
@[simp] theorem rowE_len (nx : List (List Int)) (p x : Nat) : (rowE nx p x).length = x := by simp [rowE]
theorem rowE_succ (nx : List (List Int)) (p x : Nat) : rowE nx p (x + 1) = rowE nx p x ++ [(p, x, stepR nx p x)] := by simp [rowE, List.range_succ]
@[simp] theorem toE_len (L : Nat) (nx : List (List Int)) : ∀ p, (toE L nx p).length = p * L
 | 0 => by simp [toE]
 | p + 1 => by simp [toE, toE_len L nx p, Nat.add_mul]
theorem toE_mem (L : Nat) (nx : List (List Int)) (e : Ed) : ∀ p, e ∈ toE L nx p ↔ e.1 < p ∧ e.2.1 < L ∧ stepR nx e.1 e.2.1 = e.2.2
 | 0 => by simp [toE]
 | p + 1 => by
  unfold toE
  rw [List.mem_append, toE_mem L nx e p]
  obtain ⟨a, b, c⟩ := e
  simp only [rowE, List.mem_map, List.mem_range, Prod.mk.injEq]
  constructor
  ·rintro (⟨h1, h2, h3⟩ | ⟨i, h1, rfl, rfl, h2⟩)
   ·exact ⟨by omega, h2, h3⟩
   ·exact ⟨by omega, h1, h2⟩
  ·rintro ⟨h1, h2, h3⟩
   by_cases h : a = p
   ·subst h
    exact .inr ⟨b, h2, rfl, rfl, h3⟩
   ·exact .inl ⟨by omega, h2, h3⟩
theorem toE_srt (L : Nat) (nx : List (List Int)) : ∀ p, (toE L nx p).Pairwise edLt
 | 0 => by simp [toE]
 | p + 1 => by
  unfold toE
  refine List.pairwise_append.2 ⟨toE_srt L nx p, ?_, fun a ha b hb => ?_⟩
  ·unfold rowE
   rw [List.pairwise_map]
   exact List.Pairwise.imp (R := fun a b => a < b) (fun {a b} h => .inr ⟨rfl, .inl h⟩) List.pairwise_lt_range
  ·have h1 := ((toE_mem L nx a p).1 ha).1
   simp only [rowE, List.mem_map, List.mem_range] at hb
   obtain ⟨i, -, rfl⟩ := hb
   exact .inl h1
theorem toE_ok {L m s : Nat} {bs : List Bool} {nx : List (List Int)} (hD : DfL L m s bs nx) : EdOK L m (toE L nx m) :=
 ⟨fun e he => by
  obtain ⟨h1, h2, h3⟩ := (toE_mem L nx e m).1 he
  exact ⟨h1, h2, by rw [← h3]; exact (hD.rt.step h1 h2).1⟩, fun i h => List.pairwise_iff_getElem.1 (toE_srt L nx m) i (i + 1) (by omega) h (by omega)⟩
set_option maxRecDepth 100000 in
set_option maxHeartbeats 8000000 in
theorem toNFA_fn {L m s : Nat} {bs : List Bool} {nx : List (List Int)} (hD : DfL L m s bs nx) (hL : 1 ≤ L) (hL2 : L ≤ 6) (hm : m ≤ 63) : FnA Tryd.prog 74 [dfT 0 L s bs nx] (.tup [nfT 2 L m (2 ^ s) (finM m bs) (toE L nx m), .t 2 (.int .i64 0)]) := by
 have hbl := hD.bl
 have hnl := hD.nl
 have hs := hD.st
 have hsh := shl_bit (i := s) (by omega)
 have h64 : ¬ (64 : Int) < (m : Int) := by omega
 obtain ⟨st, hst⟩ : ∃ st, st = 2 ^ s := ⟨_, rfl⟩
 rw [← hst] at hsh ⊢
 refine fn_intro Tryd.func74 rfl (by simp [Tryd.f74]) ?_
 rw [show Tryd.f74.ntmps = 68 from rfl, show Tryd.f74.results = #[.cell 2 123, .tmp 3] from rfl]
 refine awp_seqR fun K hK => ?_
 simp (disch := omega) [ints, rows, scal, wr64, wr8, dfT, bools]
 (repeat' first | apply hK | apply And.intro) <;> try first | (show okH _ _ _ = true; kernel_rfl) | omega | rfl | (simp <;> omega)
 refine awp_seq ?_
 refine awp_seqR fun K hK => ?_
 simp (disch := omega) [ints, rows, scal, wr64, wr8]
 (repeat' apply And.intro)
 all_goals (try omega)
 refine call_rule (caps := []) (dvalidate_fn hD hL hL2 (by omega)) [] [] 2 rfl rfl rfl rfl (by kernel_rfl) (by simp) ?_ trivial trivial rfl trivial trivial (by simp) ?_
 ·simp [scal, rows, ints, dfT, bools]
 simp (disch := omega) [ints, rows, scal, wr64, wr8]
 (repeat' first | apply hK | apply And.intro) <;> try first | (show okH _ _ _ = true; kernel_rfl) | omega | rfl | (simp <;> omega)
 refine awp_seqR fun K hK => ?_
 simp (disch := omega) [ints, rows, scal, wr64, wr8]
 (repeat' first | apply hK | apply And.intro) <;> try first | (show okH _ _ _ = true; kernel_rfl) | omega | rfl | (simp <;> omega)
 refine awp_cond (b := false) (p := 2) (by simp [scal] <;> omega) ?_
 refine awp_skip ?_
 show awp _ _ _ _
 refine awp_seq ?_
 refine awp_seqR fun K hK => ?_
 simp (disch := omega) [ints, rows, scal, wr64, wr8, bools, hbl, h64]
 (repeat' first | apply hK | apply And.intro) <;> try first | (show okH _ _ _ = true; kernel_rfl) | omega | rfl | (simp <;> omega)
 refine awp_cond (b := false) (p := 2) (by simp [scal, h64] <;> omega) ?_
 refine awp_skip ?_
 show awp _ _ _ _
 refine awp_seqD (by kernel_rfl) (fun K hK => ?_)
 simp (disch := omega) [ints, rows, scal, wr64, wr8, bools, hbl, hsh]
 (repeat' first | apply hK | apply And.intro) <;> try first | (show chkD _ _ = true; kernel_rfl) | (show okH _ _ _ = true; kernel_rfl) | omega | rfl | (simp <;> omega)
 refine awp_seq ?_
 refine awp_seqR fun K hK => ?_
 simp (disch := omega) [ints, rows, scal, wr64, wr8]
 (repeat' first | apply hK | apply And.intro) <;> try first | (show okH _ _ _ = true; kernel_rfl) | omega | rfl | (simp <;> omega)
 refine awp_block ?_
 refine awp_loop (fun p : Nat => mkS [(1, .ptr 0 0 4), (2, .ptr 1 0 5), (5, .ptr 2 0 5), (31, .t 0 (rows nx)), (32, .t 2 (.int .i64 m)), (33, .t 2 (.int .i64 p))]
   [(0, dfO L s bs nx), (1, .box 123 [.any, .any, .any, .any, .any]), (2, .box 123 [.t 2 (.int .i64 L), .t 2 (.int .i64 m), .t 2 (.int .u64 (st : Nat)), .t 2 (.int .u64 (finM p bs : Nat)), .own 3 (p * L * 3)]), (3, .row 143 3 2 (edC (toE L nx p)))] 4 68 [.any]) (fun p => p ≤ m) (fun p => m - p) ?_ ?_
 ·refine ⟨0, by omega, ?_⟩
  refine wk_list [(0, some 0), (1, some 1000000), (2, some 21000000), (3, none)] rfl ?_ ?_ ?_ ?_
  all_goals try simp [ints, dfO, bools, rows, hnl, finM, mkM, toE, edC]
 intro p hp
 refine awp_seqR fun K hK => ?_
 simp (disch := omega) [ints, rows, scal, wr64, wr8]
 (repeat' first | apply hK | apply And.intro) <;> try first | (show okH _ _ _ = true; kernel_rfl) | omega | rfl | (simp <;> omega)
 refine awp_seq ?_
 by_cases hpl : p < m
 ·have hpx : p < nx.length := by omega
  have hpb : p < bs.length := by omega
  obtain ⟨hrl, -⟩ := hD.row nx[p] (by simp)
  have hpl2 : p * L * 3 ≤ 63 * 6 * 3 := Nat.mul_le_mul_right 3 (Nat.mul_le_mul (by omega) hL2)
  have hbg : bs.getD p false = bs[p] := by rw [List.getD_eq_getElem?_getD, List.getElem?_eq_getElem hpb]; rfl
  have hfl : finM p bs < 2 ^ 63 := Nat.lt_of_lt_of_le (mkM_lt _ _) (Nat.pow_le_pow_right (by omega) (by omega))
  have hms : finM (p + 1) bs = if bs[p] = true then finM p bs ||| 2 ^ p else finM p bs := by rw [← hbg]; rfl
  refine awp_cond (b := true) (p := 2) (by simp [scal, hpl] <;> omega) ?_
  refine awp_skip ?_
  show awp _ _ _ _
  refine awp_seq ?_
  refine awp_block ?_
  refine awp_seqR fun K hK => ?_
  simp (disch := omega) [ints, rows, scal, wr64, wr8, rows, hpx, hrl]
  (repeat' first | apply hK | apply And.intro) <;> try first | (show okH _ _ _ = true; kernel_rfl) | omega | rfl | (simp <;> omega)
  refine awp_join (fun σ' => Wk σ' (mkS [(1, .ptr 0 0 4), (2, .ptr 1 0 5), (5, .ptr 2 0 5), (6, .t 2 (.int .i64 p)), (7, .t 0 (ints nx[p])), (31, .t 0 (rows nx)), (32, .t 2 (.int .i64 m)), (33, .t 2 (.int .i64 p))]
   [(0, dfO L s bs nx), (1, .box 123 [.any, .any, .any, .any, .any]), (2, .box 123 [.t 2 (.int .i64 L), .t 2 (.int .i64 m), .t 2 (.int .u64 (st : Nat)), .t 2 (.int .u64 (finM (p + 1) bs : Nat)), .own 3 (p * L * 3)]), (3, .row 143 3 2 (edC (toE L nx p)))] 4 68 [.any])) ?_ ?_
  ·intro σ' hw
   refine awp_weak hw ?_
   clear hw
   refine awp_seqR fun K hK => ?_
   simp (disch := omega) [ints, rows, scal, wr64, wr8]
   (repeat' first | apply hK | apply And.intro) <;> try first | (show okH _ _ _ = true; kernel_rfl) | omega | rfl | (simp <;> omega)
   refine awp_block ?_
   refine awp_loop (fun x : Nat => mkS [(1, .ptr 0 0 4), (2, .ptr 1 0 5), (5, .ptr 2 0 5), (6, .t 2 (.int .i64 p)), (31, .t 0 (rows nx)), (32, .t 2 (.int .i64 m)), (33, .t 2 (.int .i64 p)), (49, .t 0 (ints nx[p])), (50, .t 2 (.int .i64 L)), (51, .t 2 (.int .i64 x))]
    [(0, dfO L s bs nx), (1, .box 123 [.any, .any, .any, .any, .any]), (2, .box 123 [.t 2 (.int .i64 L), .t 2 (.int .i64 m), .t 2 (.int .u64 (st : Nat)), .t 2 (.int .u64 (finM (p + 1) bs : Nat)), .own 3 ((p * L + x) * 3)]), (3, .row 143 3 2 (edC (toE L nx p ++ rowE nx p x)))] 4 68 [.any]) (fun x => x ≤ L) (fun x => L - x) ?_ ?_
   ·refine ⟨0, by omega, ?_⟩
    refine wk_list [(0, some 0), (1, some 1), (2, some 2), (3, some 3)] rfl ?_ ?_ ?_ ?_
    all_goals try simp [ints, dfO, bools, rows, hrl, rowE]
   intro x hx
   refine awp_seqR fun K hK => ?_
   simp (disch := omega) [ints, rows, scal, wr64, wr8]
   (repeat' first | apply hK | apply And.intro) <;> try first | (show okH _ _ _ = true; kernel_rfl) | omega | rfl | (simp <;> omega)
   refine awp_seq ?_
   by_cases hxl : x < L
   ·obtain ⟨s1, s2, s3, s4⟩ := hD.rt.step hpl hxl
    have hel : (edC (toE L nx p ++ rowE nx p x)).length = (p * L + x) * 3 := by simp
    refine awp_cond (b := true) (p := 2) (by simp [scal, hxl] <;> omega) ?_
    refine awp_skip ?_
    show awp _ _ _ _
    refine awp_seq ?_
    refine awp_block ?_
    refine awp_seqR fun K hK => ?_
    simp (disch := omega) [ints, rows, scal, wr64, wr8, s3, s4]
    (repeat' first | apply hK | apply And.intro) <;> try first | (show okH _ _ _ = true; kernel_rfl) | omega | rfl | (simp <;> omega)
    refine awp_R fun K hK => ?_
    simp (disch := omega) [ints, rows, scal, wr64, wr8, hel]
    (repeat' first | apply hK | apply And.intro) <;> try first | (show okH _ _ _ = true; kernel_rfl) | omega | rfl | (simp <;> omega)
    show awp _ _ _ _
    refine awp_R fun K hK => ?_
    simp (disch := omega) [ints, rows, scal, wr64, wr8]
    (repeat' first | apply hK | apply And.intro) <;> try first | (show okH _ _ _ = true; kernel_rfl) | omega | rfl | (simp <;> omega)
    refine ⟨x + 1, by omega, by omega, ?_⟩
    refine wk_list [(0, some 0), (1, some 1), (2, some 2), (3, some 3)] rfl ?_ ?_ ?_ ?_
    all_goals try simp [ints, dfO, bools, rows, rowE_succ, edC_snoc, ← List.append_assoc]
    omega
   ·obtain rfl : x = L := by omega
    refine awp_cond (b := false) (p := 2) (by simp [scal] <;> omega) ?_
    refine awp_exit ?_
    show awp _ _ _ _
    refine awp_R fun K hK => ?_
    simp (disch := omega) [ints, rows, scal, wr64, wr8]
    (repeat' first | apply hK | apply And.intro) <;> try first | (show okH _ _ _ = true; kernel_rfl) | omega | rfl | (simp <;> omega)
    refine ⟨p + 1, by omega, by omega, ?_⟩
    refine wk_list [(0, some 0), (1, some 1), (2, some 2), (3, some 3)] rfl ?_ ?_ ?_ ?_
    all_goals try simp [ints, dfO, bools, rows, toE, Nat.add_mul]
  ·refine awp_seqR fun K hK => ?_
   simp (disch := omega) [ints, rows, scal, wr64, wr8, dfO, bools, hpb]
   (repeat' first | apply hK | apply And.intro) <;> try first | (show okH _ _ _ = true; kernel_rfl) | omega | rfl | (simp <;> omega)
   cases hb : bs[p] with
   | true =>
    rw [hb, if_pos rfl] at hms
    have hsh2 := shl_bit (i := p) (by omega)
    have hb2 := bit_lt (i := p) (by omega)
    have hor := orN (x := finM p bs) (y := 2 ^ p) (by omega) hb2
    rw [← hms] at hor
    generalize 2 ^ p = d at hsh2 hor
    refine awp_cond (b := true) (p := 2) (by simp [scal, hb] <;> omega) ?_
    refine awp_RD (by kernel_rfl) (fun K hK => ?_)
    simp (disch := omega) [ints, rows, scal, wr64, wr8, hsh2, hor]
    (repeat' first | apply hK | apply And.intro) <;> try first | (show chkD _ _ = true; kernel_rfl) | (show okH _ _ _ = true; kernel_rfl) | omega | rfl | (simp <;> omega)
    refine wk_list [(0, some 0), (1, some 1), (2, some 2), (3, some 3)] rfl ?_ ?_ ?_ ?_
    all_goals try simp [ints, dfO, bools, rows]
   | false =>
    rw [hb, if_neg (by simp)] at hms
    refine awp_cond (b := false) (p := 2) (by simp [scal, hb] <;> omega) ?_
    refine awp_skip ?_
    refine wk_list [(0, some 0), (1, some 1), (2, some 2), (3, some 3)] rfl ?_ ?_ ?_ ?_
    all_goals try simp [ints, dfO, bools, rows, hms]
 ·obtain rfl : p = m := by omega
  refine awp_cond (b := false) (p := 2) (by simp [scal] <;> omega) ?_
  refine awp_exit ?_
  show awp _ _ _ _
  refine awp_seqR fun K hK => ?_
  simp (disch := omega) [ints, rows, scal, wr64, wr8]
  (repeat' first | apply hK | apply And.intro) <;> try first | (show okH _ _ _ = true; kernel_rfl) | omega | rfl | (simp <;> omega)
  refine awp_ret ?_
  refine ⟨⟨.inr rfl, _, [], (by simp; rfl), trivial, trivial, by simp [nfT, dfT], ?_⟩, by simp [nfT, dfT]⟩
  simp [ints, rows, nfT, dfT]

attribute [local simp] KL_ap KD_ap awpL_nil awpL_cons awpD_nil awpD_cons awpOp awpOpD wrE gd aop aBuiltin aNil aMin ASt.eval AV.ofV dstOk ASt.app Eff.heap dels upd_b aLoad aStore aField aFieldV aIndexAddr aIndex aSlice aSliceO aLen aBin iB sB aUn aConv aAlloc aBox aBuild afill avCells AV.leaf setR aBuildSlice frz frzL isOwn vecOf tsOf aMake srcOf aAppend aMkMap aMapUpd aLookup oint cut putL AObj.cnt mkS envOf_nil envOf_cons heapOf_nil heapOf_cons argS Nat.blt_eq callS outV outVs outO heap2 addL delL List.getElem?_cons_zero okO inPs inP wkE wkP wkPs wkH wkO keysNd unm mpOf_nil mpOf_cons ghA ghA1 ndL inOs inO resV
set_option linter.unusedSimpArgs false

def turnE (e : Ed) : Ed := (e.2.2, e.2.1, e.1)
def turnK (es : List Ed) (k : Nat) : List Ed := (es.take k).map turnE
theorem turnK_succ {es : List Ed} {k : Nat} (h : k < es.length) : turnK es (k + 1) = turnK es k ++ [turnE es[k]] := by
 unfold turnK
 rw [List.take_succ_eq_append_getElem h, List.map_append]
 rfl
theorem turnK_len {es : List Ed} {k : Nat} (h : k ≤ es.length) : (turnK es k).length = k := by simp [turnK]; omega
theorem turnK_zero (es : List Ed) : turnK es 0 = [] := by simp [turnK]
theorem turnK_all (es : List Ed) : turnK es es.length = es.map turnE := by simp [turnK]
set_option maxRecDepth 100000 in
set_option maxHeartbeats 8000000 in
theorem nreverse_fn {L m st fi : Nat} {es : List Ed} (hE : EdOK L m es) (hL : 1 ≤ L) (hL2 : L ≤ 6) (hm : m ≤ 63) (hs : st < 2 ^ m) (hf : fi < 2 ^ m) (h0 : 0 < es.length) (hl : es.length ≤ 400) : FnA Tryd.prog 76 [nfT 0 L m st fi es] (nfT 2 L m fi st (srtE (es.map turnE))) := by
 have hsort := sortE_fn (es := es.map turnE) (by simpa using h0) (by simp; omega)
 rw [List.length_map] at hsort
 refine fn_intro Tryd.func76 rfl (by simp [Tryd.f76]) ?_
 rw [show Tryd.f76.ntmps = 43 from rfl, show Tryd.f76.results = #[.cell 2 123] from rfl]
 refine awp_seqR fun K hK => ?_
 simp (disch := omega) [ints, rows, scal, wr64, wr8, nfT]
 (repeat' first | apply hK | apply And.intro) <;> try first | (show okH _ _ _ = true; kernel_rfl) | omega | rfl | (simp <;> omega)
 refine awp_seq ?_
 refine awp_seqR fun K hK => ?_
 simp (disch := omega) [ints, rows, scal, wr64, wr8]
 (repeat' apply And.intro)
 all_goals (try omega)
 refine call_rule (caps := []) (nvalidate_fn hE hL hL2 hm hs hf (by omega)) [] [] 2 rfl rfl rfl rfl (by kernel_rfl) (by simp) ?_ trivial trivial rfl trivial trivial (by simp) ?_
 ·simp [scal, rows, ints, nfT]
 simp (disch := omega) [ints, rows, scal, wr64, wr8]
 (repeat' first | apply hK | apply And.intro) <;> try first | (show okH _ _ _ = true; kernel_rfl) | omega | rfl | (simp <;> omega)
 refine awp_cond (b := false) (p := 2) (by simp [scal] <;> omega) ?_
 refine awp_skip ?_
 show awp _ _ _ _
 refine awp_seqR fun K hK => ?_
 simp (disch := omega) [ints, rows, scal, wr64, wr8]
 (repeat' first | apply hK | apply And.intro) <;> try first | (show okH _ _ _ = true; kernel_rfl) | omega | rfl | (simp <;> omega)
 refine awp_seq ?_
 refine awp_seqR fun K hK => ?_
 simp (disch := omega) [ints, rows, scal, wr64, wr8]
 (repeat' first | apply hK | apply And.intro) <;> try first | (show okH _ _ _ = true; kernel_rfl) | omega | rfl | (simp <;> omega)
 refine awp_block ?_
 refine awp_loop (fun k : Nat => mkS [(2, .ptr 1 0 5), (3, .ptr 2 0 5), (20, .t 0 (.sl 3 (edC es))), (21, .t 2 (.int .i64 es.length)), (22, .t 2 (.int .i64 k))]
   [(1, .box 123 [.any, .any, .any, .any, .any]), (2, .box 123 [.t 2 (.int .i64 L), .t 2 (.int .i64 m), .t 2 (.int .u64 (fi : Nat)), .t 2 (.int .u64 (st : Nat)), .own 3 (k * 3)]), (3, .row 143 3 2 (edC (turnK es k)))] 4 43 [.any]) (fun k => k ≤ es.length) (fun k => es.length - k) ?_ ?_
 ·refine ⟨0, by omega, ?_⟩
  refine wk_list [(1, some 1000000), (2, some 14000000), (3, none)] rfl ?_ ?_ ?_ ?_
  all_goals try simp [ints, edC, turnK_zero]
 intro k hk
 refine awp_seqR fun K hK => ?_
 simp (disch := omega) [ints, rows, scal, wr64, wr8]
 (repeat' first | apply hK | apply And.intro) <;> try first | (show okH _ _ _ = true; kernel_rfl) | omega | rfl | (simp <;> omega)
 refine awp_seq ?_
 by_cases hkl : k < es.length
 ·have hat := ed_at hkl
  have hin := ed_in hkl
  have htk := turnK_succ hkl
  have hel : (turnK es k).length = k := turnK_len (by omega)
  refine awp_cond (b := true) (p := 2) (by simp [scal, hkl] <;> omega) ?_
  refine awp_skip ?_
  show awp _ _ _ _
  refine awp_seq ?_
  refine awp_block ?_
  refine awp_seqR fun K hK => ?_
  simp (disch := omega) [ints, rows, scal, wr64, wr8, hat, hin]
  (repeat' first | apply hK | apply And.intro) <;> try first | (show okH _ _ _ = true; kernel_rfl) | omega | rfl | (simp <;> omega)
  refine awp_R fun K hK => ?_
  simp (disch := omega) [ints, rows, scal, wr64, wr8, hel]
  (repeat' first | apply hK | apply And.intro) <;> try first | (show okH _ _ _ = true; kernel_rfl) | omega | rfl | (simp <;> omega)
  show awp _ _ _ _
  refine awp_R fun K hK => ?_
  simp (disch := omega) [ints, rows, scal, wr64, wr8]
  (repeat' first | apply hK | apply And.intro) <;> try first | (show okH _ _ _ = true; kernel_rfl) | omega | rfl | (simp <;> omega)
  refine ⟨k + 1, by omega, by omega, ?_⟩
  refine wk_list [(1, some 1), (2, some 2), (3, some 3)] rfl ?_ ?_ ?_ ?_
  all_goals try simp [ints, htk, edC_snoc, turnE, Nat.add_mul, hel]
 ·obtain rfl : k = es.length := by omega
  refine awp_cond (b := false) (p := 2) (by simp [scal] <;> omega) ?_
  refine awp_exit ?_
  show awp _ _ _ _
  rw [turnK_all]
  refine awp_seqR fun K hK => ?_
  simp (disch := omega) [ints, rows, scal, wr64, wr8]
  (repeat' apply And.intro)
  all_goals (try omega)
  refine call_ruleK (caps := []) (hsort) [3] [3] 2 rfl rfl rfl rfl (by kernel_rfl) (by simp) ?_ ?_ (by simp) rfl (by simp) ⟨.inr (.inr ⟨rfl, by simp, by simp⟩), trivial⟩ (by simp) ?_
  ·simp [scal, rows, ints]
  ·simp [scal, rows, ints]
  simp (disch := omega) [ints, rows, scal, wr64, wr8]
  (repeat' first | apply hK | apply And.intro) <;> try first | (show okH _ _ _ = true; kernel_rfl) | omega | rfl | (simp <;> omega)
  refine awp_seqR fun K hK => ?_
  simp (disch := omega) [ints, rows, scal, wr64, wr8]
  (repeat' first | apply hK | apply And.intro) <;> try first | (show okH _ _ _ = true; kernel_rfl) | omega | rfl | (simp <;> omega)
  refine awp_ret ?_
  refine ⟨⟨.inr rfl, _, [], (by simp; rfl), trivial, trivial, by simp [nfT], ?_⟩, by simp [nfT]⟩
  simp [ints, rows, nfT]

attribute [local simp] KL_ap KD_ap awpL_nil awpL_cons awpD_nil awpD_cons awpOp awpOpD wrE gd aop aBuiltin aNil aMin ASt.eval AV.ofV dstOk ASt.app Eff.heap dels upd_b aLoad aStore aField aFieldV aIndexAddr aIndex aSlice aSliceO aLen aBin iB sB aUn aConv aAlloc aBox aBuild afill avCells AV.leaf setR aBuildSlice frz frzL isOwn vecOf tsOf aMake srcOf aAppend aMkMap aMapUpd aLookup oint cut putL AObj.cnt mkS envOf_nil envOf_cons heapOf_nil heapOf_cons argS Nat.blt_eq callS outV outVs outO heap2 addL delL List.getElem?_cons_zero okO inPs inP ndL inOs inO resV ghA ghA1 wkPs wkP unm
set_option linter.unusedSimpArgs false

def revE (L m : Nat) (nx : List (List Int)) : List Ed := srtE ((toE L nx m).map turnE)
theorem revE_ok {L m s : Nat} {bs : List Bool} {nx : List (List Int)} (hD : DfL L m s bs nx) (hL2 : L ≤ 6) (hm : m ≤ 63) : RevE L m nx (revE L m nx) ∧ EdOK L m (revE L m nx) ∧ (revE L m nx).length = m * L := by
 have hmem : ∀ e : Ed, e ∈ revE L m nx ↔ e.1 < m ∧ e.2.1 < L ∧ e.2.2 < m ∧ stepR nx e.2.2 e.2.1 = e.1 := fun e => by
  obtain ⟨a, b, c⟩ := e
  unfold revE
  rw [srtE_mem, List.mem_map]
  constructor
  ·rintro ⟨⟨x, y, z⟩, h, e⟩
   simp only [turnE, Prod.mk.injEq] at e
   obtain ⟨rfl, rfl, rfl⟩ := e
   obtain ⟨h1, h2, h3⟩ := (toE_mem L nx _ m).1 h
   simp only at h1 h2 h3 ⊢
   exact ⟨by rw [← h3]; exact (hD.rt.step h1 h2).1, h2, h1, h3⟩
  ·rintro ⟨h1, h2, h3, h4⟩
   exact ⟨(c, b, a), (toE_mem L nx _ m).2 ⟨h3, h2, h4⟩, rfl⟩
 have hlen : (revE L m nx).length = m * L := by simp [revE]
 have hle : m * L ≤ 63 * 6 := Nat.mul_le_mul hm hL2
 refine ⟨⟨hmem, by omega⟩, ⟨fun e he => ⟨((hmem e).1 he).1, ((hmem e).1 he).2.1, ((hmem e).1 he).2.2.1⟩, srtE_srt ?_⟩, hlen⟩
 have hp := toE_srt L nx m
 rw [List.Nodup, List.pairwise_map]
 refine List.Pairwise.imp (R := edLt) (S := fun a b => turnE a ≠ turnE b) (fun {a b} h e => edLt_ne h ?_) hp
 obtain ⟨a1, a2, a3⟩ := a
 obtain ⟨b1, b2, b3⟩ := b
 simp only [turnE, Prod.mk.injEq] at e
 rw [e.1, e.2.1, e.2.2]
set_option maxRecDepth 100000 in
set_option maxHeartbeats 8000000 in
theorem subset_fn {L m s st : Nat} {bs : List Bool} {nx : List (List Int)} (hD : DfL L m s bs nx) (hL : 1 ≤ L) (hL2 : L ≤ 6) (hm : m ≤ 9) (hs : st < 2 ^ m) : ∃ res, (∃ ss bs' nx', ExI L (2 ^ m) st (powB m) (powN L m nx) ss bs' nx' ss.length ∧ FO L (powN L m nx) ss (ss.length * L) ∧ res = .tup [dfT 2 L 0 bs' nx', .t 2 (.sl 1 (u64T ss)), .t 2 (.int .i64 0)]) ∧ FnS Tryd.prog 92 [nfT 0 L m st 1 (revE L m nx)] [] res [] := by
 obtain ⟨hR, hE, hlen⟩ := revE_ok hD hL2 (by omega)
 have hle : m * L ≤ 9 * 6 := Nat.mul_le_mul hm hL2
 have h1m : 1 < 2 ^ m := Nat.one_lt_two_pow (by have := hD.n1; omega)
 have hv := nvalidate_fn hE hL hL2 (by omega) hs h1m (by omega)
 have hst := steps_fn (st := st) (fi := 1) hD hL hL2 (by omega) hR
 obtain ⟨_, ⟨ss, bs', nx', hX, hF, rfl⟩, hex⟩ := exploreU_fn (st := st) (ed := .sl 3 (edC (revE L m nx))) hD hL hL2 hm hs
 refine fn_introE Tryd.func92 rfl (by simp [Tryd.f92]) ?_
 rw [show Tryd.f92.ntmps = 23 from rfl, show Tryd.f92.results = #[.cell 2 32, .tmp 3, .tmp 4] from rfl]
 refine awp_seqR fun K hK => ?_
 simp (disch := omega) [ints, rows, scal, wr64, wr8, nfT]
 (repeat' first | apply hK | apply And.intro) <;> try first | (show okH _ _ _ = true; kernel_rfl) | omega | rfl | (simp <;> omega)
 refine awp_seq ?_
 refine awp_seqR fun K hK => ?_
 simp (disch := omega) [ints, rows, scal, wr64, wr8]
 (repeat' apply And.intro)
 all_goals (try omega)
 refine call_rule (caps := []) (hv) [] [] 2 rfl rfl rfl rfl (by kernel_rfl) (by simp) ?_ trivial trivial rfl trivial trivial (by simp) ?_
 ·simp [scal, rows, ints, nfT]
 simp (disch := omega) [ints, rows, scal, wr64, wr8]
 (repeat' first | apply hK | apply And.intro) <;> try first | (show okH _ _ _ = true; kernel_rfl) | omega | rfl | (simp <;> omega)
 refine awp_seqR fun K hK => ?_
 simp (disch := omega) [ints, rows, scal, wr64, wr8]
 (repeat' first | apply hK | apply And.intro) <;> try first | (show okH _ _ _ = true; kernel_rfl) | omega | rfl | (simp <;> omega)
 refine awp_cond (b := false) (p := 2) (by simp [scal] <;> omega) ?_
 refine awp_skip ?_
 show awp _ _ _ _
 refine awp_seqD (by kernel_rfl) (fun K hK => ?_)
 simp (disch := omega) [ints, rows, scal, wr64, wr8]
 (repeat' apply And.intro)
 all_goals (try omega)
 refine call_ruleD (caps := []) (hst) [] [14000000] 2 rfl rfl rfl rfl (by kernel_rfl) (by simp) ?_ ?_ (by simp) rfl (by simp) ⟨.inl ⟨by omega, by omega⟩, trivial⟩ (by simp [nfT]) ?_
 ·simp [scal, rows, ints, nfT]
 ·trivial
 simp (disch := omega) [ints, rows, scal, wr64, wr8]
 (repeat' apply And.intro)
 all_goals (try omega)
 refine call_ruleD (caps := []) (hex) [] [] 2 rfl rfl rfl rfl (by kernel_rfl) (by simp) ?_ trivial trivial rfl trivial trivial (by simp) ?_
 ·simp [scal, rows, ints, nfC, nextT]
 simp (disch := omega) [ints, rows, scal, wr64, wr8]
 (repeat' first | apply hK | apply And.intro) <;> try first | (show chkD _ _ = true; kernel_rfl) | (show okH _ _ _ = true; kernel_rfl) | omega | rfl | (simp <;> omega)
 refine awp_ret ?_
 refine ⟨_, ⟨ss, bs', nx', hX, hF, rfl⟩, ?_⟩
 refine ⟨⟨.inr rfl, _, [], (by simp; rfl), trivial, trivial, by simp [nfT, dfT, bools], ?_⟩, by simp [nfT, dfT, bools]⟩
 simp [ints, rows, nfT, dfT, bools]
def RvX (L m : Nat) (bs : List Bool) (nx : List (List Int)) (m2 : Nat) (b2 : List Bool) (nx2 : List (List Int)) : Prop := MnD L m2 b2 nx2 ∧ m2 ≤ 512 ∧ ∀ w, (∀ a ∈ w, a < L) → accR b2 nx2 0 w = accR bs nx 0 w.reverse
set_option maxRecDepth 100000 in
set_option maxHeartbeats 8000000 in
theorem language_fn {L m : Nat} {bs : List Bool} {nx : List (List Int)} (hD : DfL L m 0 bs nx) (hL : 1 ≤ L) (hL2 : L ≤ 6) (hm : m ≤ 9) : ∃ res, (∃ m2 b2 nx2, RvX L m bs nx m2 b2 nx2 ∧ res = .tup [dfT 2 L 0 b2 nx2, .t 2 (.int .i64 0)]) ∧ FnS Tryd.prog 75 [nfT 0 L m (finM m bs) 1 (revE L m nx)] [] res [] := by
 have hfm : finM m bs < 2 ^ m := mkM_lt _ _
 obtain ⟨_, ⟨ss, bs', nx', hX, hF, rfl⟩, hsub⟩ := subset_fn hD hL hL2 hm hfm
 obtain ⟨hX1, hX2⟩ := hX.fin
 have hn : ss.length ≤ 512 := Nat.le_trans hX.len (Nat.le_trans (Nat.pow_le_pow_right (by omega) hm) (by decide))
 obtain ⟨_, ⟨m2, b2, nx2, hM, rfl⟩, hmin⟩ := mzMinimal_fn hX1 hL hL2 hn
 have hRv : RvX L m bs nx m2 b2 nx2 := ⟨hM.mn, Nat.le_trans hM.le hn, fun w hw => by rw [hM.lang w hw, hX2 w hw, pow_rev hD hw]⟩
 refine fn_introE Tryd.func75 rfl (by simp [Tryd.f75]) ?_
 rw [show Tryd.f75.ntmps = 19 from rfl, show Tryd.f75.results = #[.cell 2 32, .tmp 3] from rfl]
 refine awp_seqR fun K hK => ?_
 simp (disch := omega) [ints, rows, scal, wr64, wr8, nfT]
 (repeat' first | apply hK | apply And.intro) <;> try first | (show okH _ _ _ = true; kernel_rfl) | omega | rfl | (simp <;> omega)
 refine awp_seqR fun K hK => ?_
 simp (disch := omega) [ints, rows, scal, wr64, wr8]
 (repeat' apply And.intro)
 all_goals (try omega)
 refine call_rule (caps := []) (hsub) [] [] 2 rfl rfl rfl rfl (by kernel_rfl) (by simp) ?_ trivial trivial rfl trivial trivial (by simp) ?_
 ·simp [scal, rows, ints, nfT]
 simp (disch := omega) [ints, rows, scal, wr64, wr8, dfT, bools]
 (repeat' first | apply hK | apply And.intro) <;> try first | (show okH _ _ _ = true; kernel_rfl) | omega | rfl | (simp <;> omega)
 refine awp_seq ?_
 refine awp_seqR fun K hK => ?_
 simp (disch := omega) [ints, rows, scal, wr64, wr8]
 (repeat' first | apply hK | apply And.intro) <;> try first | (show okH _ _ _ = true; kernel_rfl) | omega | rfl | (simp <;> omega)
 refine awp_cond (b := false) (p := 2) (by simp [scal] <;> omega) ?_
 refine awp_skip ?_
 show awp _ _ _ _
 refine awp_seqR fun K hK => ?_
 simp (disch := omega) [ints, rows, scal, wr64, wr8]
 (repeat' apply And.intro)
 all_goals (try omega)
 refine call_rule (caps := []) (hmin) [] [] 2 rfl rfl rfl rfl (by kernel_rfl) (by simp) ?_ trivial trivial rfl trivial trivial (by simp) ?_
 ·simp [scal, rows, ints, dfT, bools]
 simp (disch := omega) [ints, rows, scal, wr64, wr8, dfT, bools]
 (repeat' first | apply hK | apply And.intro) <;> try first | (show okH _ _ _ = true; kernel_rfl) | omega | rfl | (simp <;> omega)
 refine awp_ret ?_
 refine ⟨_, ⟨m2, b2, nx2, hRv, rfl⟩, ?_⟩
 refine ⟨⟨.inr rfl, _, [], (by simp; rfl), trivial, trivial, by simp [nfT, dfT, bools], ?_⟩, by simp [nfT, dfT, bools]⟩
 simp [ints, rows, nfT, dfT, bools]
set_option maxRecDepth 100000 in
set_option maxHeartbeats 8000000 in
theorem lminimal_fn {L n s : Nat} {bs : List Bool} {nxt : List (List Int)} (h : DfL L n s bs nxt) (hL : 1 ≤ L) (hL2 : L ≤ 6) (hn : n ≤ 512) : ∃ res, (∃ m b2 nx, MiX L n s bs nxt m b2 nx ∧ res = .tup [dfT 2 L 0 b2 nx, .t 2 (.int .i64 0)]) ∧ FnS Tryd.prog 73 [dfT 0 L s bs nxt] [] res [] := by
 obtain ⟨_, ⟨m, b2, nx, hX, rfl⟩, hmin⟩ := mzMinimal_fn h hL hL2 hn
 refine fn_introE Tryd.func73 rfl (by simp [Tryd.f73]) ?_
 rw [show Tryd.f73.ntmps = 13 from rfl, show Tryd.f73.results = #[.cell 2 32, .tmp 3] from rfl]
 refine awp_seqR fun K hK => ?_
 simp (disch := omega) [ints, rows, scal, wr64, wr8, dfT, bools]
 (repeat' first | apply hK | apply And.intro) <;> try first | (show okH _ _ _ = true; kernel_rfl) | omega | rfl | (simp <;> omega)
 refine awp_seq ?_
 refine awp_seqR fun K hK => ?_
 simp (disch := omega) [ints, rows, scal, wr64, wr8]
 (repeat' apply And.intro)
 all_goals (try omega)
 refine call_rule (caps := []) (dvalidate_fn h hL hL2 hn) [] [] 2 rfl rfl rfl rfl (by kernel_rfl) (by simp) ?_ trivial trivial rfl trivial trivial (by simp) ?_
 ·simp [scal, rows, ints, dfT, bools]
 simp (disch := omega) [ints, rows, scal, wr64, wr8]
 (repeat' first | apply hK | apply And.intro) <;> try first | (show okH _ _ _ = true; kernel_rfl) | omega | rfl | (simp <;> omega)
 refine awp_seqR fun K hK => ?_
 simp (disch := omega) [ints, rows, scal, wr64, wr8]
 (repeat' first | apply hK | apply And.intro) <;> try first | (show okH _ _ _ = true; kernel_rfl) | omega | rfl | (simp <;> omega)
 refine awp_cond (b := false) (p := 2) (by simp [scal] <;> omega) ?_
 refine awp_skip ?_
 show awp _ _ _ _
 refine awp_seqR fun K hK => ?_
 simp (disch := omega) [ints, rows, scal, wr64, wr8]
 (repeat' apply And.intro)
 all_goals (try omega)
 refine call_rule (caps := []) (hmin) [] [] 2 rfl rfl rfl rfl (by kernel_rfl) (by simp) ?_ trivial trivial rfl trivial trivial (by simp) ?_
 ·simp [scal, rows, ints, dfT, bools]
 simp (disch := omega) [ints, rows, scal, wr64, wr8, dfT, bools]
 (repeat' first | apply hK | apply And.intro) <;> try first | (show okH _ _ _ = true; kernel_rfl) | omega | rfl | (simp <;> omega)
 refine awp_ret ?_
 refine ⟨_, ⟨m, b2, nx, hX, rfl⟩, ?_⟩
 refine ⟨⟨.inr rfl, _, [], (by simp; rfl), trivial, trivial, by simp [dfT, bools], ?_⟩, by simp [dfT, bools]⟩
 simp [ints, rows, dfT, bools]
set_option maxRecDepth 100000 in
set_option maxHeartbeats 8000000 in
theorem lreverse_fn {L n s : Nat} {bs : List Bool} {nxt : List (List Int)} (h : DfL L n s bs nxt) (hL : 1 ≤ L) (hL2 : L ≤ 6) (hn : n ≤ 9) : ∃ res, (∃ m b1 nx m2 b2 nx2, MiX L n s bs nxt m b1 nx ∧ RvX L m b1 nx m2 b2 nx2 ∧ res = .tup [dfT 2 L 0 b2 nx2, .t 2 (.int .i64 0)]) ∧ FnS Tryd.prog 51 [dfT 0 L s bs nxt] [] res [] := by
 obtain ⟨_, ⟨m, b1, nx, hX, rfl⟩, hmin⟩ := lminimal_fn h hL hL2 (by omega)
 have hD := hX.mn.df
 have hm : m ≤ 9 := Nat.le_trans hX.le hn
 have hm1 := hD.n1
 have hmL : 1 * 1 ≤ m * L := Nat.mul_le_mul hm1 hL
 have hmL2 : m * L ≤ 9 * 6 := Nat.mul_le_mul hm hL2
 have hto := toNFA_fn hD hL hL2 (by omega)
 have hrv := nreverse_fn (toE_ok hD) hL hL2 (by omega) (st := 2 ^ 0) (fi := finM m b1) (Nat.pow_lt_pow_right (by omega) (by omega)) (mkM_lt _ _) (by simp; omega) (by simp; omega)
 have hrv : FnA Tryd.prog 76 [nfT 0 L m 1 (finM m b1) (toE L nx m)] (nfT 2 L m (finM m b1) 1 (revE L m nx)) := hrv
 have hto : FnA Tryd.prog 74 [dfT 0 L 0 b1 nx] (.tup [nfT 2 L m 1 (finM m b1) (toE L nx m), .t 2 (.int .i64 0)]) := hto
 obtain ⟨_, ⟨m2, b2, nx2, hR, rfl⟩, hlg⟩ := language_fn hD hL hL2 hm
 refine fn_introE Tryd.func51 rfl (by simp [Tryd.f51]) ?_
 rw [show Tryd.f51.ntmps = 30 from rfl, show Tryd.f51.results = #[.cell 2 32, .tmp 3] from rfl]
 refine awp_seqR fun K hK => ?_
 simp (disch := omega) [ints, rows, scal, wr64, wr8, dfT, bools]
 (repeat' first | apply hK | apply And.intro) <;> try first | (show okH _ _ _ = true; kernel_rfl) | omega | rfl | (simp <;> omega)
 refine awp_seqR fun K hK => ?_
 simp (disch := omega) [ints, rows, scal, wr64, wr8]
 (repeat' apply And.intro)
 all_goals (try omega)
 refine call_rule (caps := []) (hmin) [] [] 2 rfl rfl rfl rfl (by kernel_rfl) (by simp) ?_ trivial trivial rfl trivial trivial (by simp) ?_
 ·simp [scal, rows, ints, dfT, bools]
 simp (disch := omega) [ints, rows, scal, wr64, wr8, dfT, bools]
 (repeat' first | apply hK | apply And.intro) <;> try first | (show okH _ _ _ = true; kernel_rfl) | omega | rfl | (simp <;> omega)
 refine awp_seq ?_
 refine awp_seqR fun K hK => ?_
 simp (disch := omega) [ints, rows, scal, wr64, wr8]
 (repeat' first | apply hK | apply And.intro) <;> try first | (show okH _ _ _ = true; kernel_rfl) | omega | rfl | (simp <;> omega)
 refine awp_cond (b := false) (p := 2) (by simp [scal] <;> omega) ?_
 refine awp_skip ?_
 show awp _ _ _ _
 refine awp_seqR fun K hK => ?_
 simp (disch := omega) [ints, rows, scal, wr64, wr8]
 (repeat' apply And.intro)
 all_goals (try omega)
 refine call_rule (caps := []) (hto) [] [] 2 rfl rfl rfl rfl (by kernel_rfl) (by simp) ?_ trivial trivial rfl trivial trivial (by simp) ?_
 ·simp [scal, rows, ints, dfT, bools]
 simp (disch := omega) [ints, rows, scal, wr64, wr8, nfT]
 (repeat' first | apply hK | apply And.intro) <;> try first | (show okH _ _ _ = true; kernel_rfl) | omega | rfl | (simp <;> omega)
 refine awp_seq ?_
 refine awp_seqR fun K hK => ?_
 simp (disch := omega) [ints, rows, scal, wr64, wr8]
 (repeat' first | apply hK | apply And.intro) <;> try first | (show okH _ _ _ = true; kernel_rfl) | omega | rfl | (simp <;> omega)
 refine awp_cond (b := false) (p := 2) (by simp [scal] <;> omega) ?_
 refine awp_skip ?_
 show awp _ _ _ _
 refine awp_seqR fun K hK => ?_
 simp (disch := omega) [ints, rows, scal, wr64, wr8]
 (repeat' apply And.intro)
 all_goals (try omega)
 refine call_rule (caps := []) (hrv) [] [] 2 rfl rfl rfl rfl (by kernel_rfl) (by simp) ?_ trivial trivial rfl trivial trivial (by simp) ?_
 ·simp [scal, rows, ints, nfT]
 simp (disch := omega) [ints, rows, scal, wr64, wr8, nfT]
 (repeat' apply And.intro)
 all_goals (try omega)
 refine call_rule (caps := []) (hlg) [] [] 2 rfl rfl rfl rfl (by kernel_rfl) (by simp) ?_ trivial trivial rfl trivial trivial (by simp) ?_
 ·simp [scal, rows, ints, nfT]
 simp (disch := omega) [ints, rows, scal, wr64, wr8, dfT, bools]
 (repeat' first | apply hK | apply And.intro) <;> try first | (show okH _ _ _ = true; kernel_rfl) | omega | rfl | (simp <;> omega)
 refine awp_ret ?_
 refine ⟨_, ⟨m, b1, nx, m2, b2, nx2, hX, hR, rfl⟩, ?_⟩
 refine ⟨⟨.inr rfl, _, [], (by simp; rfl), trivial, trivial, by simp [dfT, bools], ?_⟩, by simp [dfT, bools]⟩
 simp [ints, rows, dfT, bools]

attribute [local simp] KL_ap KD_ap awpL_nil awpL_cons awpD_nil awpD_cons awpOp awpOpD wrE gd aop aBuiltin aNil aMin ASt.eval AV.ofV dstOk ASt.app Eff.heap dels upd_b aLoad aStore aField aFieldV aIndexAddr aIndex aSlice aSliceO aLen aBin iB sB aUn aConv aAlloc aBox aBuild afill avCells AV.leaf setR aBuildSlice frz frzL isOwn vecOf tsOf aMake srcOf aAppend aMkMap aMapUpd aLookup oint cut putL AObj.cnt mkS envOf_nil envOf_cons heapOf_nil heapOf_cons argS Nat.blt_eq callS outV outVs outO heap2 addL delL List.getElem?_cons_zero ghA ghA1 wkPs wkP unm wkE wkH wkO keysNd mpOf_nil mpOf_cons inPs inP okO
set_option linter.unusedSimpArgs false

theorem bit2_fn {i : Nat} (h : i < 64) : FnA Tryd.prog 96 [.t 2 (.int .i64 i)] (.t 2 (.int .u64 (2 ^ i : Nat))) := by
 have h1 := shl_bit h
 have h2 := wrN (x := i) (by omega)
 generalize 2 ^ i = b at *
 refine fn_intro Tryd.func96 rfl (by simp [Tryd.f96]) ?_
 rw [show Tryd.f96.ntmps = 6 from rfl, show Tryd.f96.results = #[.tmp 2] from rfl]
 refine awp_seqR fun K hK => ?_
 simp (disch := omega) [ints, rows, scal, wr64, wr8]
 (repeat' first | apply hK | apply And.intro) <;> try first | (show okH _ _ _ = true; kernel_rfl) | omega | rfl | (simp <;> omega)
 refine awp_seqR fun K hK => ?_
 simp (disch := omega) [ints, rows, scal, wr64, wr8, h1, h2]
 (repeat' first | apply hK | apply And.intro) <;> try first | (show okH _ _ _ = true; kernel_rfl) | omega | rfl | (simp <;> omega)
 refine awp_ret ?_
 refine ⟨⟨.inr rfl, _, [], rfl, trivial, trivial, by simp, ?_⟩, by simp⟩
 simp
theorem below2_fn {n : Nat} (hn : n ≤ 63) : FnA Tryd.prog 130 [.t 2 (.int .i64 n)] (.t 2 (.int .u64 (2 ^ n - 1 : Nat))) := by
 have h1 := shl_bit (i := n) (by omega)
 have h3 := wrN (x := n) (by omega)
 have hb := bit_lt (i := n) (by omega)
 obtain ⟨c, hc⟩ : ∃ c, c = 2 ^ n - 1 := ⟨_, rfl⟩
 have hp : 0 < 2 ^ n := Nat.two_pow_pos n
 have h2 : IntKind.u64.wrap (((2 ^ n : Nat) : Int) - 1) = (c : Int) := by
  rw [show (((2 ^ n : Nat) : Int) - 1) = (c : Int) by omega, wrN (by omega)]
 rw [← hc]
 generalize 2 ^ n = b at *
 have h64 : ¬ (64 : Int) ≤ (n : Int) := by omega
 refine fn_intro Tryd.func130 rfl (by simp [Tryd.f130]) ?_
 rw [show Tryd.f130.ntmps = 9 from rfl, show Tryd.f130.results = #[.tmp 2] from rfl]
 refine awp_seqR fun K hK => ?_
 simp (disch := omega) [ints, rows, scal, wr64, wr8]
 (repeat' first | apply hK | apply And.intro) <;> try first | (show okH _ _ _ = true; kernel_rfl) | omega | rfl | (simp <;> omega)
 refine awp_seq ?_
 refine awp_seqR fun K hK => ?_
 simp (disch := omega) [ints, rows, scal, wr64, wr8, h64]
 (repeat' first | apply hK | apply And.intro) <;> try first | (show okH _ _ _ = true; kernel_rfl) | omega | rfl | (simp <;> omega)
 refine awp_cond (b := false) (p := 2) (by simp [scal, h64] <;> omega) ?_
 refine awp_skip ?_
 show awp _ _ _ _
 refine awp_seqR fun K hK => ?_
 simp (disch := omega) [ints, rows, scal, wr64, wr8, h1, h2, h3]
 (repeat' first | apply hK | apply And.intro) <;> try first | (show okH _ _ _ = true; kernel_rfl) | omega | rfl | (simp <;> omega)
 refine awp_ret ?_
 refine ⟨⟨.inr rfl, _, [], rfl, trivial, trivial, by simp, ?_⟩, by simp⟩
 simp
theorem has2_fn {s i : Nat} (hs : s < 18446744073709551616) (hi : i < 64) : FnA Tryd.prog 131 [.t 2 (.int .u64 (s : Nat)), .t 2 (.int .i64 i)] (.t 2 (.bool (s.testBit i))) := by
 have d3 : shrI .u64 (s : Int) (i : Int) = ((s / 2 ^ i : Nat) : Int) := shrN (by show i ≤ 64; omega)
 have d5 := wrN (x := i) (by omega)
 have hb : s.testBit i = decide (s / 2 ^ i % 2 = 1) := Nat.testBit_eq_decide_div_mod_eq
 have hlt : s / 2 ^ i < 18446744073709551616 := Nat.lt_of_le_of_lt (Nat.div_le_self _ _) hs
 have d4 : andI .u64 ((s / 2 ^ i : Nat) : Int) 1 = ((s / 2 ^ i % 2 : Nat) : Int) := by
  have := andN hlt (show 1 < 18446744073709551616 by omega)
  rw [Nat.and_one_is_mod] at this
  exact this
 rw [hb]
 generalize s / 2 ^ i = u at d3 d4 ⊢
 obtain ⟨t, ht⟩ : ∃ t, t = u % 2 := ⟨_, rfl⟩
 rw [← ht] at d4 ⊢
 refine fn_intro Tryd.func131 rfl (by simp [Tryd.f131]) ?_
 rw [show Tryd.f131.ntmps = 11 from rfl, show Tryd.f131.results = #[.tmp 4] from rfl]
 refine awp_seqR fun K hK => ?_
 simp (disch := omega) [ints, rows, scal, wr64, wr8]
 (repeat' first | apply hK | apply And.intro) <;> try first | (show okH _ _ _ = true; kernel_rfl) | omega | rfl | (simp <;> omega)
 refine awp_seqR fun K hK => ?_
 simp (disch := omega) [ints, rows, scal, wr64, wr8, d3, d4, d5]
 (repeat' first | apply hK | apply And.intro) <;> try first | (show okH _ _ _ = true; kernel_rfl) | omega | rfl | (simp <;> omega)
 refine awp_ret ?_
 refine ⟨⟨.inr rfl, _, [], rfl, trivial, trivial, by simp, ?_⟩, by simp⟩
 simp
 rw [Bool.eq_iff_iff]
 simp
 omega
def edN (e : Ed) : AV := .agg [.t 2 (.int .i64 (e.1 : Int)), .t 2 (.int .i64 (e.2.1 : Int)), .t 2 (.int .i64 (e.2.2 : Int))]
theorem before_fn (a b : Ed) : FnA Tryd.prog 112 [edN a, edN b] (.t 2 (.bool (decide (edLt a b)))) := by
 obtain ⟨a1, a2, a3⟩ := a
 obtain ⟨b1, b2, b3⟩ := b
 refine fn_intro Tryd.func112 rfl (by simp [Tryd.f112]) ?_
 rw [show Tryd.f112.ntmps = 30 from rfl, show Tryd.f112.results = #[.tmp 4] from rfl]
 refine awp_seqR fun K hK => ?_
 simp (disch := omega) [ints, rows, scal, wr64, wr8, edN]
 (repeat' first | apply hK | apply And.intro) <;> try first | (show okH _ _ _ = true; kernel_rfl) | omega | rfl | (simp <;> omega)
 refine awp_seq ?_
 by_cases h1 : a1 = b1
 ·subst h1
  refine awp_seqR fun K hK => ?_
  simp (disch := omega) [ints, rows, scal, wr64, wr8]
  (repeat' first | apply hK | apply And.intro) <;> try first | (show okH _ _ _ = true; kernel_rfl) | omega | rfl | (simp <;> omega)
  refine awp_cond (b := false) (p := 2) (by simp [scal] <;> omega) ?_
  refine awp_skip ?_
  show awp _ _ _ _
  refine awp_seq ?_
  by_cases h2 : a2 = b2
  ·subst h2
   have he : decide (edLt (a1, a2, a3) (a1, a2, b3)) = decide ((a3 : Int) < (b3 : Int)) := by rw [Bool.eq_iff_iff]; simp [edLt]
   refine awp_seqR fun K hK => ?_
   simp (disch := omega) [ints, rows, scal, wr64, wr8]
   (repeat' first | apply hK | apply And.intro) <;> try first | (show okH _ _ _ = true; kernel_rfl) | omega | rfl | (simp <;> omega)
   refine awp_cond (b := false) (p := 2) (by simp [scal] <;> omega) ?_
   refine awp_skip ?_
   show awp _ _ _ _
   refine awp_seqR fun K hK => ?_
   simp (disch := omega) [ints, rows, scal, wr64, wr8]
   (repeat' first | apply hK | apply And.intro) <;> try first | (show okH _ _ _ = true; kernel_rfl) | omega | rfl | (simp <;> omega)
   refine awp_ret ?_
   refine ⟨⟨.inr rfl, _, [], rfl, trivial, trivial, by simp [edN, he], ?_⟩, by simp [edN, he]⟩
   simp [edN, he]
  ·have hb : ((a2 : Int) != (b2 : Int)) = true := bne_iff_ne.2 (by omega)
   have he : decide (edLt (a1, a2, a3) (a1, b2, b3)) = decide ((a2 : Int) < (b2 : Int)) := by rw [Bool.eq_iff_iff]; simp [edLt, h2]
   refine awp_seqR fun K hK => ?_
   simp (disch := omega) [ints, rows, scal, wr64, wr8, hb]
   (repeat' first | apply hK | apply And.intro) <;> try first | (show okH _ _ _ = true; kernel_rfl) | omega | rfl | (simp <;> omega)
   refine awp_cond (b := true) (p := 2) (by simp [scal, hb, h2] <;> omega) ?_
   refine awp_seqR fun K hK => ?_
   simp (disch := omega) [ints, rows, scal, wr64, wr8]
   (repeat' first | apply hK | apply And.intro) <;> try first | (show okH _ _ _ = true; kernel_rfl) | omega | rfl | (simp <;> omega)
   refine awp_ret ?_
   refine ⟨⟨.inr rfl, _, [], rfl, trivial, trivial, by simp [edN, he], ?_⟩, by simp [edN, he]⟩
   simp [edN, he]
 ·have hb : ((a1 : Int) != (b1 : Int)) = true := bne_iff_ne.2 (by omega)
  have he : decide (edLt (a1, a2, a3) (b1, b2, b3)) = decide ((a1 : Int) < (b1 : Int)) := by rw [Bool.eq_iff_iff]; simp [edLt, h1]
  refine awp_seqR fun K hK => ?_
  simp (disch := omega) [ints, rows, scal, wr64, wr8, hb]
  (repeat' first | apply hK | apply And.intro) <;> try first | (show okH _ _ _ = true; kernel_rfl) | omega | rfl | (simp <;> omega)
  refine awp_cond (b := true) (p := 2) (by simp [scal, hb, h1] <;> omega) ?_
  refine awp_seqR fun K hK => ?_
  simp (disch := omega) [ints, rows, scal, wr64, wr8]
  (repeat' first | apply hK | apply And.intro) <;> try first | (show okH _ _ _ = true; kernel_rfl) | omega | rfl | (simp <;> omega)
  refine awp_ret ?_
  refine ⟨⟨.inr rfl, _, [], rfl, trivial, trivial, by simp [edN, he], ?_⟩, by simp [edN, he]⟩
  simp [edN, he]
def rStp (m : Nat) (es : List Ed) (S x : Nat) : Nat := mkM (fun q => es.any fun e => decide (e.2.1 = x) && S.testBit e.1 && decide (e.2.2 = q)) m
theorem rStp_nil (m S x : Nat) : rStp m [] S x = 0 := by
 refine bits_eq (mkM_lt _ _) (Nat.two_pow_pos m) (fun q hq => ?_)
 rw [rStp, mkM_bit]
 simp
theorem rStp_snoc {m : Nat} {es : List Ed} {e : Ed} {S x : Nat} (he : e.2.2 < m) : rStp m (es ++ [e]) S x = if e.2.1 = x ∧ S.testBit e.1 = true then rStp m es S x ||| 2 ^ e.2.2 else rStp m es S x := by
 obtain ⟨a, b, c⟩ := e
 simp only at he ⊢
 have h2 : 2 ^ c < 2 ^ m := Nat.pow_lt_pow_right (by omega) he
 by_cases h : b = x ∧ S.testBit a = true
 ·rw [if_pos h]
  refine bits_eq (mkM_lt _ _) (Nat.or_lt_two_pow (mkM_lt _ _) h2) (fun q hq => ?_)
  rw [rStp, mkM_bit, Nat.testBit_or, rStp, mkM_bit, Nat.testBit_two_pow, List.any_append]
  simp [hq, h.1, h.2]
 ·rw [if_neg h]
  refine bits_eq (mkM_lt _ _) (mkM_lt _ _) (fun q hq => ?_)
  rw [rStp, mkM_bit, rStp, mkM_bit, List.any_append]
  have : (decide (b = x) && S.testBit a && decide (c = q)) = false := by
   by_cases h1 : b = x
   ·have : S.testBit a = false := by
     cases hs : S.testBit a
     ·rfl
     ·exact absurd ⟨h1, hs⟩ h
    simp [this]
   ·simp [h1]
  rw [List.any_cons, List.any_nil, this, Bool.or_false, Bool.or_false]
theorem rStp_all {L m s : Nat} {bs : List Bool} {nx : List (List Int)} {es : List Ed} (hD : DfL L m s bs nx) (h : RevE L m nx es) {S x : Nat} (hx : x < L) : rStp m es S x = imgM m nx S x := by
 refine bits_eq (mkM_lt _ _) (imgM_lt _ _ _ _) (fun q hq => ?_)
 rw [rStp, mkM_bit, imgM, mkM_bit]
 simp only [hq, decide_true, Bool.true_and]
 rw [Bool.eq_iff_iff, List.any_eq_true]
 simp only [Bool.and_eq_true, decide_eq_true_eq]
 constructor
 ·rintro ⟨⟨a, b, c⟩, h1, ⟨h2, h3⟩, h4⟩
  simp only at h2 h3 h4
  subst h2 h4
  have h5 := ((h.mem _).1 h1).2.2.2
  simp only at h5
  rw [h5]; exact h3
 ·intro g
  exact ⟨(stepR nx q x, x, q), (h.mem _).2 ⟨(hD.rt.step hq hx).1, hx, hq, rfl⟩, ⟨rfl, g⟩, rfl⟩
set_option maxRecDepth 100000 in
set_option maxHeartbeats 8000000 in
theorem rstep_fn {L m st fi S x : Nat} {es : List Ed} (hE : EdOK L m es) (hm : m ≤ 63) (hS : S < 2 ^ m) (hl : es.length ≤ 100000) : FnA Tryd.prog 114 [nfT 0 L m st fi es, .t 2 (.int .u64 (S : Nat)), .t 2 (.int .i64 x)] (.t 2 (.int .u64 (rStp m es S x : Nat))) := by
 have h63 : 2 ^ m ≤ 2 ^ 63 := Nat.pow_le_pow_right (by omega) hm
 refine fn_intro Tryd.func114 rfl (by simp [Tryd.f114]) ?_
 rw [show Tryd.f114.ntmps = 34 from rfl, show Tryd.f114.results = #[.tmp 6] from rfl]
 refine awp_seqR fun K hK => ?_
 simp (disch := omega) [ints, rows, scal, wr64, wr8, nfT]
 (repeat' first | apply hK | apply And.intro) <;> try first | (show okH _ _ _ = true; kernel_rfl) | omega | rfl | (simp <;> omega)
 refine awp_seqR fun K hK => ?_
 simp (disch := omega) [ints, rows, scal, wr64, wr8]
 (repeat' first | apply hK | apply And.intro) <;> try first | (show okH _ _ _ = true; kernel_rfl) | omega | rfl | (simp <;> omega)
 refine awp_seq ?_
 refine awp_seqR fun K hK => ?_
 simp (disch := omega) [ints, rows, scal, wr64, wr8]
 (repeat' first | apply hK | apply And.intro) <;> try first | (show okH _ _ _ = true; kernel_rfl) | omega | rfl | (simp <;> omega)
 refine awp_block ?_
 refine awp_loop (fun k : Nat => mkS [(1, .t 2 (.int .u64 (S : Nat))), (2, .t 2 (.int .i64 x)), (7, .t 2 (.int .u64 (rStp m (es.take k) S x : Nat))), (11, .t 0 (.sl 3 (edC es))), (12, .t 2 (.int .i64 es.length)), (13, .t 2 (.int .i64 k))] [] 0 34 [.any, .any, .any]) (fun k => k ≤ es.length) (fun k => es.length - k) ?_ ?_
 ·refine ⟨0, by omega, ?_⟩
  refine wk_list [] rfl ?_ ?_ ?_ ?_
  all_goals try simp [ints, nfT, rStp_nil]
 intro k hk
 refine awp_seqR fun K hK => ?_
 simp (disch := omega) [ints, rows, scal, wr64, wr8]
 (repeat' first | apply hK | apply And.intro) <;> try first | (show okH _ _ _ = true; kernel_rfl) | omega | rfl | (simp <;> omega)
 refine awp_seq ?_
 by_cases hkl : k < es.length
 ·have hat := ed_at hkl
  have hin := ed_in hkl
  obtain ⟨e1, e2, e3⟩ := hE.rng es[k] (by simp)
  have hsn : rStp m (es.take (k + 1)) S x = if es[k].2.1 = x ∧ S.testBit es[k].1 = true then rStp m (es.take k) S x ||| 2 ^ es[k].2.2 else rStp m (es.take k) S x := by
   rw [List.take_succ_eq_append_getElem hkl]
   exact rStp_snoc e3
  have hlt : rStp m (es.take k) S x < 2 ^ m := mkM_lt _ _
  have hhas := has2_fn (s := S) (i := es[k].1) (by omega) (by omega)
  have hbit := bit2_fn (i := es[k].2.2) (by omega)
  have hor := orN (x := rStp m (es.take k) S x) (y := 2 ^ es[k].2.2) (by omega) (bit_lt (by omega))
  generalize es[k] = e at *
  obtain ⟨a, b, c⟩ := e
  simp only at hat e1 e2 e3 hsn hhas hbit hor
  generalize rStp m (es.take k) S x = R at *
  generalize 2 ^ c = d at *
  refine awp_cond (b := true) (p := 2) (by simp [scal, hkl] <;> omega) ?_
  refine awp_skip ?_
  show awp _ _ _ _
  refine awp_seq ?_
  refine awp_block ?_
  refine awp_seqR fun K hK => ?_
  simp (disch := omega) [ints, rows, scal, wr64, wr8, hat, hin]
  (repeat' first | apply hK | apply And.intro) <;> try first | (show okH _ _ _ = true; kernel_rfl) | omega | rfl | (simp <;> omega)
  by_cases hbx : b = x
  ·subst hbx
   cases hs : S.testBit a with
   | true =>
    rw [hs] at hhas hsn
    rw [if_pos ⟨rfl, rfl⟩] at hsn
    refine awp_seqR fun K hK => ?_
    simp (disch := omega) [ints, rows, scal, wr64, wr8]
    (repeat' apply And.intro)
    all_goals (try omega)
    refine call_rule (caps := []) (hhas) [] [] 2 (by simp [scal, rows, ints]) rfl rfl rfl (by kernel_rfl) (by simp) ?_ trivial trivial rfl trivial trivial (by simp) ?_
    ·simp [scal, rows, ints]
    simp (disch := omega) [ints, rows, scal, wr64, wr8]
    (repeat' first | apply hK | apply And.intro) <;> try first | (show okH _ _ _ = true; kernel_rfl) | omega | rfl | (simp <;> omega)
    refine awp_cond (b := true) (p := 2) (by simp [scal] <;> omega) ?_
    refine awp_R fun K hK => ?_
    simp (disch := omega) [ints, rows, scal, wr64, wr8]
    (repeat' apply And.intro)
    all_goals (try omega)
    refine call_rule (caps := []) (hbit) [] [] 2 rfl rfl rfl rfl (by kernel_rfl) (by simp) ?_ trivial trivial rfl trivial trivial (by simp) ?_
    ·simp [scal, rows, ints]
    simp (disch := omega) [ints, rows, scal, wr64, wr8, hor]
    (repeat' first | apply hK | apply And.intro) <;> try first | (show okH _ _ _ = true; kernel_rfl) | omega | rfl | (simp <;> omega)
    show awp _ _ _ _
    refine awp_R fun K hK => ?_
    simp (disch := omega) [ints, rows, scal, wr64, wr8]
    (repeat' first | apply hK | apply And.intro) <;> try first | (show okH _ _ _ = true; kernel_rfl) | omega | rfl | (simp <;> omega)
    refine ⟨k + 1, by omega, by omega, ?_⟩
    refine wk_list [] rfl ?_ ?_ ?_ ?_
    all_goals try simp [ints, hsn]
   | false =>
    rw [hs] at hhas hsn
    rw [if_neg (by simp)] at hsn
    refine awp_seqR fun K hK => ?_
    simp (disch := omega) [ints, rows, scal, wr64, wr8]
    (repeat' apply And.intro)
    all_goals (try omega)
    refine call_rule (caps := []) (hhas) [] [] 2 (by simp [scal, rows, ints]) rfl rfl rfl (by kernel_rfl) (by simp) ?_ trivial trivial rfl trivial trivial (by simp) ?_
    ·simp [scal, rows, ints]
    simp (disch := omega) [ints, rows, scal, wr64, wr8]
    (repeat' first | apply hK | apply And.intro) <;> try first | (show okH _ _ _ = true; kernel_rfl) | omega | rfl | (simp <;> omega)
    refine awp_cond (b := false) (p := 2) (by simp [scal] <;> omega) ?_
    refine awp_skip ?_
    show awp _ _ _ _
    refine awp_R fun K hK => ?_
    simp (disch := omega) [ints, rows, scal, wr64, wr8]
    (repeat' first | apply hK | apply And.intro) <;> try first | (show okH _ _ _ = true; kernel_rfl) | omega | rfl | (simp <;> omega)
    refine ⟨k + 1, by omega, by omega, ?_⟩
    refine wk_list [] rfl ?_ ?_ ?_ ?_
    all_goals try simp [ints, hsn]
  ·have hbb : ((b : Int) == (x : Int)) = false := beq_eq_false_iff_ne.2 (by omega)
   rw [if_neg (fun g => hbx g.1)] at hsn
   refine awp_seqR fun K hK => ?_
   simp (disch := omega) [ints, rows, scal, wr64, wr8, hbb]
   (repeat' first | apply hK | apply And.intro) <;> try first | (show okH _ _ _ = true; kernel_rfl) | omega | rfl | (simp <;> omega)
   refine awp_cond (b := false) (p := 2) (by simp [scal] <;> omega) ?_
   refine awp_skip ?_
   show awp _ _ _ _
   refine awp_R fun K hK => ?_
   simp (disch := omega) [ints, rows, scal, wr64, wr8]
   (repeat' first | apply hK | apply And.intro) <;> try first | (show okH _ _ _ = true; kernel_rfl) | omega | rfl | (simp <;> omega)
   refine ⟨k + 1, by omega, by omega, ?_⟩
   refine wk_list [] rfl ?_ ?_ ?_ ?_
   all_goals try simp [ints, hsn]
 ·obtain rfl : k = es.length := by omega
  rw [List.take_length]
  refine awp_cond (b := false) (p := 2) (by simp [scal] <;> omega) ?_
  refine awp_exit ?_
  show awp _ _ _ _
  refine awp_seqR fun K hK => ?_
  simp (disch := omega) [ints, rows, scal, wr64, wr8]
  (repeat' first | apply hK | apply And.intro) <;> try first | (show okH _ _ _ = true; kernel_rfl) | omega | rfl | (simp <;> omega)
  refine awp_ret ?_
  refine ⟨⟨.inr rfl, _, [], rfl, trivial, trivial, by simp [nfT], ?_⟩, by simp [nfT]⟩
  simp [nfT]

attribute [local simp] KL_ap KD_ap awpL_nil awpL_cons awpD_nil awpD_cons awpOp awpOpD wrE gd aop aBuiltin aNil aMin ASt.eval AV.ofV dstOk ASt.app Eff.heap dels upd_b aLoad aStore aField aFieldV aIndexAddr aIndex aSlice aSliceO aLen aBin iB sB aUn aConv aAlloc aBox aBuild afill avCells AV.leaf setR aBuildSlice frz frzL isOwn vecOf tsOf aMake srcOf aAppend aMkMap aMapUpd aLookup oint cut putL AObj.cnt mkS envOf_nil envOf_cons heapOf_nil heapOf_cons argS Nat.blt_eq callS outV outVs outO heap2 addL delL List.getElem?_cons_zero okO inPs inP wkE wkP wkPs wkH wkO keysNd unm mpOf_nil mpOf_cons ghA ghA1 ndL inOs inO
set_option linter.unusedSimpArgs false

theorem or_full {x n : Nat} (hx : x < 2 ^ n) : x ||| (2 ^ n - 1) = 2 ^ n - 1 := by
 have hp := Nat.two_pow_pos n
 refine bits_eq (m := n) (Nat.or_lt_two_pow hx (by omega)) (by omega) (fun q hq => ?_)
 rw [Nat.testBit_or, full_bit]
 simp [hq]
set_option maxRecDepth 100000 in
set_option maxHeartbeats 8000000 in
theorem validate06_fn {L m st fi : Nat} {es : List Ed} (hE : EdOK L m es) (hL : 1 ≤ L) (hL2 : L ≤ 6) (hm : m ≤ 63) (hs : st < 2 ^ m) (hf : fi < 2 ^ m) (hl : es.length ≤ 100000) : FnA Tryd.prog 113 [nfT 0 L m st fi es] (.t 2 (.int .i64 0)) := by
 have hbl := below2_fn hm
 have h64 : 2 ^ m ≤ 2 ^ 63 := Nat.pow_le_pow_right (by omega) hm
 have hp := Nat.two_pow_pos m
 have hor1 := orN (x := st) (y := 2 ^ m - 1) (by omega) (by omega)
 have hor2 := orN (x := fi) (y := 2 ^ m - 1) (by omega) (by omega)
 rw [or_full hs] at hor1
 rw [or_full hf] at hor2
 generalize 2 ^ m - 1 = full at hbl hor1 hor2
 have hmay := mayLetters_fn (L : Int)
 rw [decide_eq_true (show 1 ≤ (L : Int) ∧ (L : Int) ≤ 6 by omega)] at hmay
 refine fn_intro Tryd.func113 rfl (by simp [Tryd.f113]) ?_
 rw [show Tryd.f113.ntmps = 95 from rfl, show Tryd.f113.results = #[.tmp 2] from rfl]
 have a3 : ¬ (m : Int) < 0 := by omega
 have a4 : ¬ (64 : Int) < (m : Int) := by omega
 refine awp_seqR fun K hK => ?_
 simp (disch := omega) [ints, rows, scal, wr64, wr8, nfT]
 (repeat' first | apply hK | apply And.intro) <;> try first | (show okH _ _ _ = true; kernel_rfl) | omega | rfl | (simp <;> omega)
 refine awp_seq ?_
 refine awp_seqR fun K hK => ?_
 simp (disch := omega) [ints, rows, scal, wr64, wr8]
 (repeat' apply And.intro)
 all_goals (try omega)
 refine call_rule (caps := []) (hmay) [] [] 2 rfl rfl rfl rfl (by kernel_rfl) (by simp) ?_ trivial trivial rfl trivial trivial (by simp) ?_
 ·simp [scal, rows, ints]
 simp (disch := omega) [ints, rows, scal, wr64, wr8, a3, a4]
 (repeat' first | apply hK | apply And.intro) <;> try first | (show okH _ _ _ = true; kernel_rfl) | omega | rfl | (simp <;> omega)
 refine awp_cond (b := false) (p := 2) (by simp [scal] <;> omega) ?_
 refine awp_skip ?_
 show awp _ _ _ _
 refine awp_seqR fun K hK => ?_
 simp (disch := omega) [ints, rows, scal, wr64, wr8]
 (repeat' apply And.intro)
 all_goals (try omega)
 refine call_rule (caps := []) (hbl) [] [] 2 rfl rfl rfl rfl (by kernel_rfl) (by simp) ?_ trivial trivial rfl trivial trivial (by simp) ?_
 ·simp [scal, rows, ints]
 simp (disch := omega) [ints, rows, scal, wr64, wr8]
 (repeat' first | apply hK | apply And.intro) <;> try first | (show okH _ _ _ = true; kernel_rfl) | omega | rfl | (simp <;> omega)
 refine awp_seq ?_
 refine awp_seqR fun K hK => ?_
 simp (disch := omega) [ints, rows, scal, wr64, wr8, hor1, hor2]
 (repeat' first | apply hK | apply And.intro) <;> try first | (show okH _ _ _ = true; kernel_rfl) | omega | rfl | (simp <;> omega)
 refine awp_cond (b := false) (p := 2) (by simp [scal] <;> omega) ?_
 refine awp_skip ?_
 show awp _ _ _ _
 refine awp_seq ?_
 refine awp_seqR fun K hK => ?_
 simp (disch := omega) [ints, rows, scal, wr64, wr8]
 (repeat' first | apply hK | apply And.intro) <;> try first | (show okH _ _ _ = true; kernel_rfl) | omega | rfl | (simp <;> omega)
 refine awp_block ?_
 refine awp_loop (fun i : Nat => mkS [(1, .ptr 0 0 5), (38, .t 0 (.sl 3 (edC es))), (39, .t 2 (.int .i64 es.length)), (40, .t 2 (.int .i64 i))] [(0, nfO 0 L m st fi es)] 1 95 [.any]) (fun i => i ≤ es.length) (fun i => es.length - i) ?_ ?_
 ·refine ⟨0, by omega, ?_⟩
  refine wk_list [(0, some 0)] rfl ?_ ?_ ?_ ?_
  all_goals try simp [ints, nfT, nfO]
 intro i hi
 refine awp_seqR fun K hK => ?_
 simp (disch := omega) [ints, rows, scal, wr64, wr8]
 (repeat' first | apply hK | apply And.intro) <;> try first | (show okH _ _ _ = true; kernel_rfl) | omega | rfl | (simp <;> omega)
 refine awp_seq ?_
 by_cases hil : i < es.length
 ·have hat := ed_at hil
  have hin := ed_in hil
  obtain ⟨e1, e2, e3⟩ := hE.rng es[i] (by simp)
  have hat1 : 0 < i → ∃ x : Ed, List.take 3 (List.drop ((i - 1) * 3) (edC es)) = [.int .i64 (x.1 : Int), .int .i64 (x.2.1 : Int), .int .i64 (x.2.2 : Int)] ∧ edLt x es[i] := fun h0 => by
   have := hE.srt (i - 1) (by omega)
   exact ⟨es[i - 1], ed_at (by omega), by simpa [show i - 1 + 1 = i by omega] using this⟩
  generalize es[i] = e at *
  obtain ⟨a, b, c⟩ := e
  simp only at e1 e2 e3 hat
  have n1 : ¬ (a : Int) < 0 := by omega
  have n2 : ¬ (b : Int) < 0 := by omega
  have n3 : ¬ (c : Int) < 0 := by omega
  have n4 : ¬ (m : Int) ≤ (a : Int) := by omega
  have n5 : ¬ (L : Int) ≤ (b : Int) := by omega
  have n6 : ¬ (m : Int) ≤ (c : Int) := by omega
  have n7 : ¬ m ≤ a := by omega
  have n8 : ¬ L ≤ b := by omega
  have n9 : ¬ m ≤ c := by omega
  refine awp_cond (b := true) (p := 2) (by simp [scal, hil] <;> omega) ?_
  refine awp_skip ?_
  show awp _ _ _ _
  refine awp_seq ?_
  refine awp_block ?_
  refine awp_seqR fun K hK => ?_
  simp (disch := omega) [ints, rows, scal, wr64, wr8, hat, hin]
  (repeat' first | apply hK | apply And.intro) <;> try first | (show okH _ _ _ = true; kernel_rfl) | omega | rfl | (simp <;> omega)
  by_cases h0 : i = 0
  ·subst h0
   refine awp_seqD (by kernel_rfl) (fun K hK => ?_)
   simp (disch := omega) [ints, rows, scal, wr64, wr8, nfO, n1, n2, n3, n4, n5, n6, n7, n8, n9]
   (repeat' first | apply hK | apply And.intro) <;> try first | (show chkD _ _ = true; kernel_rfl) | (show okH _ _ _ = true; kernel_rfl) | omega | rfl | (simp <;> omega)
   refine awp_cond (b := false) (p := 2) (by simp [scal] <;> omega) ?_
   refine awp_skip ?_
   show awp _ _ _ _
   refine awp_R fun K hK => ?_
   simp (disch := omega) [ints, rows, scal, wr64, wr8]
   (repeat' first | apply hK | apply And.intro) <;> try first | (show okH _ _ _ = true; kernel_rfl) | omega | rfl | (simp <;> omega)
   refine ⟨1, by omega, by omega, ?_⟩
   refine wk_list [(0, some 0)] rfl ?_ ?_ ?_ ?_
   all_goals try simp [ints, nfO]
  ·have h0i : (0 : Int) < (i : Int) := by omega
   have h0n : 0 < i := by omega
   obtain ⟨x, hx, hlt⟩ := hat1 (by omega)
   have hin1 : (i - 1) * 3 + 3 ≤ es.length * 3 := by omega
   have hi1 : IntKind.i64.wrap ((i : Int) - 1) = ((i - 1 : Nat) : Int) := by
    rw [show ((i : Int) - 1) = ((i - 1 : Nat) : Int) by omega]; rw [IntKind.wrap_i64]; omega
   have hce := before_fn x (a, b, c)
   rw [decide_eq_true hlt] at hce
   obtain ⟨x1, x2, x3⟩ := x
   simp only at hx
   generalize i - 1 = i1 at hx hin1 hi1
   refine awp_seqD (by kernel_rfl) (fun K hK => ?_)
   simp (disch := omega) [ints, rows, scal, wr64, wr8, nfO, n1, n2, n3, n4, n5, n6, n7, n8, n9, h0i, h0n, h0, hi1, hx, hin1]
   (repeat' apply And.intro)
   all_goals (try omega)
   refine call_ruleD (caps := []) (hce) [] [] 2 (by simp [edN]) rfl rfl rfl (by kernel_rfl) (by simp) ?_ ?_ (by simp) rfl (by simp) trivial (by simp [edN]) ?_
   ·simp [scal, rows, ints, edN]
   ·trivial
   simp (disch := omega) [ints, rows, scal, wr64, wr8]
   (repeat' first | apply hK | apply And.intro) <;> try first | (show chkD _ _ = true; kernel_rfl) | (show okH _ _ _ = true; kernel_rfl) | omega | rfl | (simp <;> omega)
   refine awp_cond (b := false) (p := 2) (by simp [scal] <;> omega) ?_
   refine awp_skip ?_
   show awp _ _ _ _
   refine awp_R fun K hK => ?_
   simp (disch := omega) [ints, rows, scal, wr64, wr8]
   (repeat' first | apply hK | apply And.intro) <;> try first | (show okH _ _ _ = true; kernel_rfl) | omega | rfl | (simp <;> omega)
   refine ⟨i + 1, by omega, by omega, ?_⟩
   refine wk_list [(0, some 0)] rfl ?_ ?_ ?_ ?_
   all_goals try simp [ints, nfO]
 ·refine awp_cond (b := false) (p := 2) (by simp [scal, hil] <;> omega) ?_
  refine awp_exit ?_
  show awp _ _ _ _
  refine awp_seqR fun K hK => ?_
  simp (disch := omega) [ints, rows, scal, wr64, wr8]
  (repeat' first | apply hK | apply And.intro) <;> try first | (show okH _ _ _ = true; kernel_rfl) | omega | rfl | (simp <;> omega)
  refine awp_ret ?_
  refine ⟨⟨.inr rfl, _, [], rfl, trivial, trivial, by simp [nfT], ?_⟩, by simp [nfT]⟩
  simp [nfT]

attribute [local simp] KL_ap KD_ap awpL_nil awpL_cons awpD_nil awpD_cons awpOp awpOpD wrE gd aop aBuiltin aNil aMin ASt.eval AV.ofV dstOk ASt.app Eff.heap dels upd_b aLoad aStore aField aFieldV aIndexAddr aIndex aSlice aSliceO aLen aBin iB sB aUn aConv aAlloc aBox aBuild afill avCells AV.leaf setR aBuildSlice frz frzL isOwn vecOf tsOf aMake srcOf aAppend aMkMap aMapUpd aLookup oint cut putL AObj.cnt mkS envOf_nil envOf_cons heapOf_nil heapOf_cons argS Nat.blt_eq callS outV outVs outO heap2 addL delL List.getElem?_cons_zero wkE wkP wkPs wkH wkO keysNd unm mpOf_nil mpOf_cons ghA ghA1 ndL okO inPs inP inOs inO
set_option linter.unusedSimpArgs false

theorem edLt_trans {a b c : Ed} (h1 : edLt a b) (h2 : edLt b c) : edLt a c := by
 unfold edLt at *
 omega
theorem edLt_tri {a b : Ed} (h : ¬ edLt a b) (hn : b ≠ a) : edLt b a := by
 apply Classical.byContradiction
 intro g
 exact hn (totE b a (by rw [ltE_iff]; simpa using g) (by rw [ltE_iff]; simpa using h))
theorem ed_take (es : List Ed) (k : Nat) : (edC es).take (k * 3) = edC (es.take k) := by
 have h1 := List.take_append_drop (k * 3) (edC es)
 have h2 : edC es = edC (es.take k) ++ edC (es.drop k) := by
  conv => lhs; rw [← List.take_append_drop k es]
  simp only [edC, List.flatMap_append]
 by_cases hk : k ≤ es.length
 ·have hl : (edC (es.take k)).length = k * 3 := by simp; omega
  rw [h2, List.take_append_of_le_length (by omega), List.take_of_length_le (by omega)]
 ·rw [List.take_of_length_le (by simp; omega), List.take_of_length_le (by omega)]
def putE (out : List Ed) (k : Nat) (e : Ed) : List Ed := out.take k ++ [e] ++ out.drop k
theorem edC_put (out : List Ed) (k : Nat) (e : Ed) : edC (putE out k e) = edC (out.take k) ++ [.int .i64 (e.1 : Int), .int .i64 (e.2.1 : Int), .int .i64 (e.2.2 : Int)] ++ edC (out.drop k) := by simp [putE, edC]
theorem putE_mem {out : List Ed} {k : Nat} {e x : Ed} : x ∈ putE out k e ↔ x = e ∨ x ∈ out := by
 have h := List.take_append_drop k out
 have : x ∈ out ↔ x ∈ out.take k ∨ x ∈ out.drop k := by
  conv => lhs; rw [← h]
  exact List.mem_append
 unfold putE
 rw [List.mem_append, List.mem_append, List.mem_singleton, this]
 constructor
 ·rintro ((h | h) | h)
  ·exact .inr (.inl h)
  ·exact .inl h
  ·exact .inr (.inr h)
 ·rintro (h | h | h)
  ·exact .inl (.inr h)
  ·exact .inl (.inl h)
  ·exact .inr h
theorem putE_srt {out : List Ed} {k : Nat} {e : Ed} (hs : out.Pairwise edLt) (hk : k ≤ out.length) (h1 : ∀ i (h : i < out.length), k ≤ i → edLt e out[i]) (h2 : k = 0 ∨ ∃ h : k - 1 < out.length, edLt out[k - 1] e) : (putE out k e).Pairwise edLt := by
 have hlt : ∀ x ∈ out.take k, edLt x e := fun x hx => by
  obtain ⟨i, hi, rfl⟩ := List.getElem_of_mem hx
  have hik : i < k := by simp at hi; omega
  rw [List.getElem_take]
  rcases h2 with h2 | ⟨h2, h3⟩
  ·omega
  ·by_cases e : i = k - 1
   ·subst e; exact h3
   ·exact edLt_trans (List.pairwise_iff_getElem.1 hs i (k - 1) (by omega) h2 (by omega)) h3
 have hgt : ∀ x ∈ out.drop k, edLt e x := fun x hx => by
  obtain ⟨i, hi, rfl⟩ := List.getElem_of_mem hx
  rw [List.getElem_drop]
  exact h1 _ (by simp at hi; omega) (by omega)
 unfold putE
 refine List.pairwise_append.2 ⟨List.pairwise_append.2 ⟨hs.sublist (List.take_sublist k out), by simp, fun a ha b hb => ?_⟩, hs.sublist (List.drop_sublist k out), fun a ha b hb => ?_⟩
 ·simp only [List.mem_singleton] at hb
  subst hb
  exact hlt a ha
 ·rcases List.mem_append.1 ha with ha | ha
  ·exact edLt_trans (hlt a ha) (hgt b hb)
  ·simp only [List.mem_singleton] at ha
   subst ha
   exact hgt b hb
def SrI (es : List Ed) (i : Nat) (out : List Ed) : Prop := out.Pairwise edLt ∧ (∀ x, x ∈ out ↔ x ∈ es.take i) ∧ out.length ≤ i
set_option maxRecDepth 100000 in
set_option maxHeartbeats 16000000 in
theorem sorted_fn {es : List Ed} (hl : es.length ≤ 3000) : ∃ res, (∃ out, SrI es es.length out ∧ res = .t 2 (.sl 3 (edC out))) ∧ FnS Tryd.prog 97 [.t 0 (.sl 3 (edC es))] [] res [] := by
 refine fn_introE Tryd.func97 rfl (by simp [Tryd.f97]) ?_
 rw [show Tryd.f97.ntmps = 53 from rfl, show Tryd.f97.results = #[.tmp 2] from rfl]
 refine awp_seqR fun K hK => ?_
 simp (disch := omega) [ints, rows, scal, wr64, wr8]
 (repeat' first | apply hK | apply And.intro) <;> try first | (show okH _ _ _ = true; kernel_rfl) | omega | rfl | (simp <;> omega)
 refine awp_seqR fun K hK => ?_
 simp (disch := omega) [ints, rows, scal, wr64, wr8]
 (repeat' first | apply hK | apply And.intro) <;> try first | (show okH _ _ _ = true; kernel_rfl) | omega | rfl | (simp <;> omega)
 refine awp_weak (σ' := mkS [(0, .t 0 (.sl 3 (edC es))), (3, .own 0 0)] [(0, .row 143 3 2 [])] 1 53 [.any]) ?_ ?_
 ·refine wk_list [(0, none)] rfl ?_ ?_ ?_ ?_
  all_goals try simp [ints]
 refine awp_seq ?_
 refine awp_seqR fun K hK => ?_
 simp (disch := omega) [ints, rows, scal, wr64, wr8]
 (repeat' first | apply hK | apply And.intro) <;> try first | (show okH _ _ _ = true; kernel_rfl) | omega | rfl | (simp <;> omega)
 refine awp_block ?_
 refine awp_loop (fun y : Nat × List Ed => mkS [(3, .t 2 (.sl 3 (edC y.2))), (7, .t 0 (.sl 3 (edC es))), (8, .t 2 (.int .i64 es.length)), (9, .t 2 (.int .i64 y.1))] [] 0 53 [.any]) (fun y => y.1 ≤ es.length ∧ SrI es y.1 y.2) (fun y => es.length - y.1) ?_ ?_
 ·refine ⟨(0, []), ⟨by simp, by simp, by simp, by simp⟩, ?_⟩
  refine wk_list [] rfl ?_ ?_ ?_ ?_
  all_goals try simp [ints, edC]
 rintro ⟨i, out⟩ ⟨hi, hS⟩
 simp only at hi hS
 obtain ⟨hs, hmem, hol⟩ := hS
 refine awp_seqR fun K hK => ?_
 simp (disch := omega) [ints, rows, scal, wr64, wr8]
 (repeat' first | apply hK | apply And.intro) <;> try first | (show okH _ _ _ = true; kernel_rfl) | omega | rfl | (simp <;> omega)
 refine awp_seq ?_
 by_cases hil : i < es.length
 ·have hat := ed_at hil
  have hin := ed_in hil
  have htk : es.take (i + 1) = es.take i ++ [es[i]] := List.take_succ_eq_append_getElem hil
  generalize es[i] = e at *
  refine awp_cond (b := true) (p := 2) (by simp [scal, hil] <;> omega) ?_
  refine awp_skip ?_
  show awp _ _ _ _
  refine awp_seq ?_
  refine awp_block ?_
  refine awp_seqR fun K hK => ?_
  simp (disch := omega) [ints, rows, scal, wr64, wr8, hat, hin]
  (repeat' first | apply hK | apply And.intro) <;> try first | (show okH _ _ _ = true; kernel_rfl) | omega | rfl | (simp <;> omega)
  refine awp_seqR fun K hK => ?_
  simp (disch := omega) [ints, rows, scal, wr64, wr8]
  (repeat' first | apply hK | apply And.intro) <;> try first | (show okH _ _ _ = true; kernel_rfl) | omega | rfl | (simp <;> omega)
  refine awp_seq ?_
  refine awp_block ?_
  refine awp_loop (fun j : Nat => mkS [(3, .t 2 (.sl 3 (edC out))), (5, .ptr 0 0 3), (6, .t 2 (.int .i64 j)), (7, .t 0 (.sl 3 (edC es))), (8, .t 2 (.int .i64 es.length)), (9, .t 2 (.int .i64 i))] [(0, .box 143 [.t 2 (.int .i64 (e.1 : Int)), .t 2 (.int .i64 (e.2.1 : Int)), .t 2 (.int .i64 (e.2.2 : Int))])] 1 53 [.any]) (fun j => j ≤ out.length ∧ ∀ q (h : q < out.length), j ≤ q → edLt e out[q]) (fun j => j) ?_ ?_
  ·refine ⟨out.length, ⟨by omega, fun q h1 h2 => by omega⟩, ?_⟩
   refine wk_list [(0, some 3000000)] rfl ?_ ?_ ?_ ?_
   all_goals try simp [ints]
  rintro j ⟨hj, hgt⟩
  refine awp_seq ?_
  have hcons : ∀ (k : Nat) x, x ∈ putE out k e ↔ x ∈ es.take (i + 1) := fun k x => by
   rw [putE_mem, htk, List.mem_append, List.mem_singleton, hmem x]
   constructor
   ·rintro (h | h)
    ·exact .inr h
    ·exact .inl h
   ·rintro (h | h)
    ·exact .inr h
    ·exact .inl h
  have hplen : ∀ k, k ≤ out.length → (putE out k e).length ≤ i + 1 := fun k hk => by simp [putE]; omega
  by_cases hj0 : j = 0
  ·subst hj0
   refine awp_seqD (by kernel_rfl) (fun K hK => ?_)
   simp (disch := omega) [ints, rows, scal, wr64, wr8]
   (repeat' first | apply hK | apply And.intro) <;> try first | (show chkD _ _ = true; kernel_rfl) | (show okH _ _ _ = true; kernel_rfl) | omega | rfl | (simp <;> omega)
   refine awp_cond (b := false) (p := 2) (by simp [scal] <;> omega) ?_
   refine awp_exit ?_
   show awp _ _ _ _
   refine awp_seqD (by kernel_rfl) (fun K hK => ?_)
   simp (disch := omega) [ints, rows, scal, wr64, wr8]
   (repeat' first | apply hK | apply And.intro) <;> try first | (show chkD _ _ = true; kernel_rfl) | (show okH _ _ _ = true; kernel_rfl) | omega | rfl | (simp <;> omega)
   refine awp_cond (b := true) (p := 2) (by simp [scal] <;> omega) ?_
   refine awp_RD (by kernel_rfl) (fun K hK => ?_)
   simp (disch := omega) [ints, rows, scal, wr64, wr8]
   (repeat' first | apply hK | apply And.intro) <;> try first | (show chkD _ _ = true; kernel_rfl) | (show okH _ _ _ = true; kernel_rfl) | omega | rfl | (simp <;> omega)
   show awp _ _ _ _
   refine awp_R fun K hK => ?_
   simp (disch := omega) [ints, rows, scal, wr64, wr8]
   (repeat' first | apply hK | apply And.intro) <;> try first | (show okH _ _ _ = true; kernel_rfl) | omega | rfl | (simp <;> omega)
   refine ⟨(i + 1, putE out 0 e), ⟨by simp only; omega, putE_srt hs hj hgt (.inl rfl), hcons 0, hplen 0 hj⟩, by simp only; omega, ?_⟩
   refine wk_list [] rfl ?_ ?_ ?_ ?_
   all_goals try simp [ints, edC_put]
   refine ⟨by omega, ?_⟩
   rw [List.take_of_length_le (by simp)]
   rfl
  ·have hj0i : (0 : Int) < (j : Int) := by omega
   have hj0n : 0 < j := by omega
   have hjb : ((j : Int) == 0) = false := beq_eq_false_iff_ne.2 (by omega)
   have hj1 : j - 1 < out.length := by omega
   have hat1 := ed_at hj1
   have hin1 := ed_in hj1
   have hi1 : IntKind.i64.wrap ((j : Int) - 1) = ((j - 1 : Nat) : Int) := by
    rw [show ((j : Int) - 1) = ((j - 1 : Nat) : Int) by omega]; rw [IntKind.wrap_i64]; omega
   have hce := before_fn e out[j - 1]
   by_cases hlt : edLt e out[j - 1]
   ·rw [decide_eq_true hlt] at hce
    refine awp_seqD (by kernel_rfl) (fun K hK => ?_)
    simp (disch := omega) [ints, rows, scal, wr64, wr8, hj0i, hj0n, hj0, hi1, hat1, hin1]
    (repeat' apply And.intro)
    all_goals (try omega)
    refine call_ruleD (caps := []) (hce) [] [] 2 (by simp [edN]) rfl rfl rfl (by kernel_rfl) (by simp) ?_ ?_ (by simp) rfl (by simp) trivial (by simp [edN]) ?_
    ·simp [scal, rows, ints, edN]
    ·trivial
    simp (disch := omega) [ints, rows, scal, wr64, wr8]
    (repeat' first | apply hK | apply And.intro) <;> try first | (show chkD _ _ = true; kernel_rfl) | (show okH _ _ _ = true; kernel_rfl) | omega | rfl | (simp <;> omega)
    refine awp_cond (b := true) (p := 2) (by simp [scal] <;> omega) ?_
    refine awp_skip ?_
    show awp _ _ _ _
    refine awp_block ?_
    refine awp_R fun K hK => ?_
    simp (disch := omega) [ints, rows, scal, wr64, wr8, hi1]
    (repeat' first | apply hK | apply And.intro) <;> try first | (show okH _ _ _ = true; kernel_rfl) | omega | rfl | (simp <;> omega)
    refine ⟨j - 1, ⟨by omega, fun q h1 h2 => ?_⟩, by omega, ?_⟩
    ·by_cases e1 : q = j - 1
     ·subst e1; exact hlt
     ·exact hgt q h1 (by omega)
    ·refine wk_list [(0, some 0)] rfl ?_ ?_ ?_ ?_
     all_goals try simp [ints]
   ·rw [decide_eq_false hlt] at hce
    refine awp_seqD (by kernel_rfl) (fun K hK => ?_)
    simp (disch := omega) [ints, rows, scal, wr64, wr8, hj0i, hj0n, hj0, hi1, hat1, hin1]
    (repeat' apply And.intro)
    all_goals (try omega)
    refine call_ruleD (caps := []) (hce) [] [] 2 (by simp [edN]) rfl rfl rfl (by kernel_rfl) (by simp) ?_ ?_ (by simp) rfl (by simp) trivial (by simp [edN]) ?_
    ·simp [scal, rows, ints, edN]
    ·trivial
    simp (disch := omega) [ints, rows, scal, wr64, wr8]
    (repeat' first | apply hK | apply And.intro) <;> try first | (show chkD _ _ = true; kernel_rfl) | (show okH _ _ _ = true; kernel_rfl) | omega | rfl | (simp <;> omega)
    refine awp_cond (b := false) (p := 2) (by simp [scal] <;> omega) ?_
    refine awp_exit ?_
    show awp _ _ _ _
    by_cases heq : out[j - 1] = e
    ·have hk : kEqL [.int .i64 (out[j - 1].1 : Int), .int .i64 (out[j - 1].2.1 : Int), .int .i64 (out[j - 1].2.2 : Int)] [.int .i64 (e.1 : Int), .int .i64 (e.2.1 : Int), .int .i64 (e.2.2 : Int)] = true := by rw [heq]; simp [kEqL]
     refine awp_seqD (by kernel_rfl) (fun K hK => ?_)
     simp (disch := omega) [ints, rows, scal, wr64, wr8, hjb, hj0, hi1, hat1, hin1, agB_ed, keyL, hk]
     (repeat' first | apply hK | apply And.intro) <;> try first | (show chkD _ _ = true; kernel_rfl) | (show okH _ _ _ = true; kernel_rfl) | omega | rfl | (simp <;> omega)
     refine awp_cond (b := false) (p := 2) (by simp [scal] <;> omega) ?_
     refine awp_skip ?_
     show awp _ _ _ _
     refine awp_R fun K hK => ?_
     simp (disch := omega) [ints, rows, scal, wr64, wr8]
     (repeat' first | apply hK | apply And.intro) <;> try first | (show okH _ _ _ = true; kernel_rfl) | omega | rfl | (simp <;> omega)
     refine ⟨(i + 1, out), ⟨by simp only; omega, hs, fun x => ?_, by simp only; omega⟩, by simp only; omega, ?_⟩
     ·rw [htk, List.mem_append, List.mem_singleton, hmem x]
      constructor
      ·exact fun h => .inl h
      ·rintro (h | rfl)
       ·exact h
       ·exact (hmem _).1 (by rw [← heq]; simp)
     ·refine wk_list [] rfl ?_ ?_ ?_ ?_
      all_goals try simp [ints]
    ·have hk : kEqL [.int .i64 (out[j - 1].1 : Int), .int .i64 (out[j - 1].2.1 : Int), .int .i64 (out[j - 1].2.2 : Int)] [.int .i64 (e.1 : Int), .int .i64 (e.2.1 : Int), .int .i64 (e.2.2 : Int)] = false := by
      rw [Bool.eq_false_iff]
      intro h
      simp only [kEqL, Bool.and_eq_true, beq_iff_eq, and_true] at h
      obtain ⟨q1, q2, q3⟩ := h
      refine heq ?_
      generalize out[j - 1] = x at *
      obtain ⟨x1, x2, x3⟩ := x
      obtain ⟨y1, y2, y3⟩ := e
      simp only at q1 q2 q3
      rw [show x1 = y1 by omega, show x2 = y2 by omega, show x3 = y3 by omega]
     have hput := putE_srt hs hj hgt (.inr ⟨hj1, edLt_tri hlt heq⟩)
     have hjo : ¬ (out.length : Int) < (j : Int) := by omega
     refine awp_seqD (by kernel_rfl) (fun K hK => ?_)
     simp (disch := omega) [ints, rows, scal, wr64, wr8, hjb, hj0, hi1, hat1, hin1, agB_ed, keyL, hk]
     (repeat' first | apply hK | apply And.intro) <;> try first | (show chkD _ _ = true; kernel_rfl) | (show okH _ _ _ = true; kernel_rfl) | omega | rfl | (simp <;> omega)
     refine awp_cond (b := true) (p := 2) (by simp [scal] <;> omega) ?_
     refine awp_RD (by kernel_rfl) (fun K hK => ?_)
     simp (disch := omega) [ints, rows, scal, wr64, wr8, hj]
     (repeat' first | apply hK | apply And.intro) <;> try first | (show chkD _ _ = true; kernel_rfl) | (show okH _ _ _ = true; kernel_rfl) | omega | rfl | (simp <;> omega)
     show awp _ _ _ _
     refine awp_R fun K hK => ?_
     simp (disch := omega) [ints, rows, scal, wr64, wr8]
     (repeat' first | apply hK | apply And.intro) <;> try first | (show okH _ _ _ = true; kernel_rfl) | omega | rfl | (simp <;> omega)
     refine ⟨(i + 1, putE out j e), ⟨by simp only; omega, hput, hcons j, hplen j hj⟩, by simp only; omega, ?_⟩
     refine wk_list [] rfl ?_ ?_ ?_ ?_
     all_goals try simp [ints, edC_put]
     refine ⟨by omega, ?_⟩
     have hlast : (edC (out.drop j)).take ((out.length - j) * 3) = edC (out.drop j) := List.take_of_length_le (by simp)
     rw [ed_take, ed_drop, hlast]
 ·obtain rfl : i = es.length := by omega
  refine awp_cond (b := false) (p := 2) (by simp [scal] <;> omega) ?_
  refine awp_exit ?_
  show awp _ _ _ _
  refine awp_seqR fun K hK => ?_
  simp (disch := omega) [ints, rows, scal, wr64, wr8]
  (repeat' first | apply hK | apply And.intro) <;> try first | (show okH _ _ _ = true; kernel_rfl) | omega | rfl | (simp <;> omega)
  refine awp_ret ?_
  refine ⟨_, ⟨out, ⟨hs, hmem, hol⟩, rfl⟩, ?_⟩
  refine ⟨⟨.inr rfl, _, [], rfl, trivial, trivial, by simp, ?_⟩, by simp⟩
  simp

attribute [local simp] KL_ap KD_ap awpL_nil awpL_cons awpD_nil awpD_cons awpOp awpOpD wrE gd aop aBuiltin aNil aMin ASt.eval AV.ofV dstOk ASt.app Eff.heap dels upd_b aLoad aStore aField aFieldV aIndexAddr aIndex aSlice aSliceO aLen aBin iB sB aUn aConv aAlloc aBox aBuild afill avCells AV.leaf setR aBuildSlice frz frzL isOwn vecOf tsOf aMake srcOf aAppend aMkMap aMapUpd aLookup oint cut putL AObj.cnt mkS envOf_nil envOf_cons heapOf_nil heapOf_cons argS Nat.blt_eq callS outV outVs outO heap2 addL delL List.getElem?_cons_zero okO inPs inP wkE wkP wkPs wkH wkO keysNd unm mpOf_nil mpOf_cons ghA ghA1 resV
set_option linter.unusedSimpArgs false

set_option maxRecDepth 100000 in
set_option maxHeartbeats 8000000 in
theorem begin_fn {L m : Nat} {bs : List Bool} {nx : List (List Int)} (hD : DfL L m 0 bs nx) (hL : 1 ≤ L) (hL2 : L ≤ 6) (hm : m ≤ 63) : FnA Tryd.prog 77 [dfT 0 L 0 bs nx] (nfT 2 L m 1 (finM m bs) (toE L nx m)) := by
 have hbl := hD.bl
 have hnl := hD.nl
 have hbit := bit2_fn (i := 0) (by omega)
 have hbit : FnA Tryd.prog 96 [.t 2 (.int .i64 0)] (.t 2 (.int .u64 1)) := hbit
 refine fn_intro Tryd.func77 rfl (by simp [Tryd.f77]) ?_
 rw [show Tryd.f77.ntmps = 56 from rfl, show Tryd.f77.results = #[.cell 2 123] from rfl]
 refine awp_seqR fun K hK => ?_
 simp (disch := omega) [ints, rows, scal, wr64, wr8, dfT, bools]
 (repeat' first | apply hK | apply And.intro) <;> try first | (show okH _ _ _ = true; kernel_rfl) | omega | rfl | (simp <;> omega)
 refine awp_seqD (by kernel_rfl) (fun K hK => ?_)
 simp (disch := omega) [ints, rows, scal, wr64, wr8, bools, hbl]
 (repeat' apply And.intro)
 all_goals (try omega)
 refine call_ruleD (caps := []) (hbit) [] [] 2 rfl rfl rfl rfl (by kernel_rfl) (by simp) ?_ trivial trivial rfl trivial trivial (by simp) ?_
 ·simp [scal, rows, ints]
 simp (disch := omega) [ints, rows, scal, wr64, wr8]
 (repeat' first | apply hK | apply And.intro) <;> try first | (show chkD _ _ = true; kernel_rfl) | (show okH _ _ _ = true; kernel_rfl) | omega | rfl | (simp <;> omega)
 refine awp_seq ?_
 refine awp_seqR fun K hK => ?_
 simp (disch := omega) [ints, rows, scal, wr64, wr8, bools, hbl]
 (repeat' first | apply hK | apply And.intro) <;> try first | (show okH _ _ _ = true; kernel_rfl) | omega | rfl | (simp <;> omega)
 refine awp_block ?_
 refine awp_loop (fun p : Nat => mkS [(1, .ptr 0 0 4), (2, .ptr 1 0 5), (3, .ptr 2 0 5), (18, .t 2 (.int .i64 m)), (19, .t 2 (.int .i64 p))]
   [(0, dfO L 0 bs nx), (1, .box 123 [.any, .any, .any, .any, .any]), (2, .box 123 [.t 2 (.int .i64 L), .t 2 (.int .i64 m), .t 2 (.int .u64 1), .t 2 (.int .u64 (finM p bs : Nat)), .own 3 (p * L * 3)]), (3, .row 143 3 2 (edC (toE L nx p)))] 4 56 [.any]) (fun p => p ≤ m) (fun p => m - p) ?_ ?_
 ·refine ⟨0, by omega, ?_⟩
  refine wk_list [(0, some 0), (1, some 1000000), (2, some 11000000), (3, none)] rfl ?_ ?_ ?_ ?_
  all_goals try simp [ints, dfO, bools, rows, hnl, finM, mkM, toE, edC]
 intro p hp
 refine awp_seqR fun K hK => ?_
 simp (disch := omega) [ints, rows, scal, wr64, wr8]
 (repeat' first | apply hK | apply And.intro) <;> try first | (show okH _ _ _ = true; kernel_rfl) | omega | rfl | (simp <;> omega)
 refine awp_seq ?_
 by_cases hpl : p < m
 ·have hpx : p < nx.length := by omega
  have hpb : p < bs.length := by omega
  obtain ⟨hrl, -⟩ := hD.row nx[p] (by simp)
  have hpl2 : p * L * 3 ≤ 63 * 6 * 3 := Nat.mul_le_mul_right 3 (Nat.mul_le_mul (by omega) hL2)
  have hbg : bs.getD p false = bs[p] := by rw [List.getD_eq_getElem?_getD, List.getElem?_eq_getElem hpb]; rfl
  have hfl : finM p bs < 2 ^ 63 := Nat.lt_of_lt_of_le (mkM_lt _ _) (Nat.pow_le_pow_right (by omega) (by omega))
  have hms : finM (p + 1) bs = if bs[p] = true then finM p bs ||| 2 ^ p else finM p bs := by rw [← hbg]; rfl
  refine awp_cond (b := true) (p := 2) (by simp [scal, hpl] <;> omega) ?_
  refine awp_skip ?_
  show awp _ _ _ _
  refine awp_seq ?_
  refine awp_block ?_
  refine awp_seqR fun K hK => ?_
  simp (disch := omega) [ints, rows, scal, wr64, wr8]
  (repeat' first | apply hK | apply And.intro) <;> try first | (show okH _ _ _ = true; kernel_rfl) | omega | rfl | (simp <;> omega)
  refine awp_join (fun σ' => Wk σ' (mkS [(1, .ptr 0 0 4), (2, .ptr 1 0 5), (3, .ptr 2 0 5), (4, .t 2 (.int .i64 p)), (18, .t 2 (.int .i64 m)), (19, .t 2 (.int .i64 p))]
   [(0, dfO L 0 bs nx), (1, .box 123 [.any, .any, .any, .any, .any]), (2, .box 123 [.t 2 (.int .i64 L), .t 2 (.int .i64 m), .t 2 (.int .u64 1), .t 2 (.int .u64 (finM (p + 1) bs : Nat)), .own 3 (p * L * 3)]), (3, .row 143 3 2 (edC (toE L nx p)))] 4 56 [.any])) ?_ ?_
  ·intro σ' hw
   refine awp_weak hw ?_
   clear hw
   refine awp_seqR fun K hK => ?_
   simp (disch := omega) [ints, rows, scal, wr64, wr8, dfO, rows, hpx, hrl]
   (repeat' first | apply hK | apply And.intro) <;> try first | (show okH _ _ _ = true; kernel_rfl) | omega | rfl | (simp <;> omega)
   refine awp_block ?_
   refine awp_loop (fun x : Nat => mkS [(1, .ptr 0 0 4), (2, .ptr 1 0 5), (3, .ptr 2 0 5), (4, .t 2 (.int .i64 p)), (18, .t 2 (.int .i64 m)), (19, .t 2 (.int .i64 p)), (37, .t 0 (ints nx[p])), (38, .t 2 (.int .i64 L)), (39, .t 2 (.int .i64 x))]
    [(0, dfO L 0 bs nx), (1, .box 123 [.any, .any, .any, .any, .any]), (2, .box 123 [.t 2 (.int .i64 L), .t 2 (.int .i64 m), .t 2 (.int .u64 1), .t 2 (.int .u64 (finM (p + 1) bs : Nat)), .own 3 ((p * L + x) * 3)]), (3, .row 143 3 2 (edC (toE L nx p ++ rowE nx p x)))] 4 56 [.any]) (fun x => x ≤ L) (fun x => L - x) ?_ ?_
   ·refine ⟨0, by omega, ?_⟩
    refine wk_list [(0, some 0), (1, some 1), (2, some 2), (3, some 3)] rfl ?_ ?_ ?_ ?_
    all_goals try simp [ints, dfO, bools, rows, hrl, rowE]
   intro x hx
   refine awp_seqR fun K hK => ?_
   simp (disch := omega) [ints, rows, scal, wr64, wr8]
   (repeat' first | apply hK | apply And.intro) <;> try first | (show okH _ _ _ = true; kernel_rfl) | omega | rfl | (simp <;> omega)
   refine awp_seq ?_
   by_cases hxl : x < L
   ·obtain ⟨s1, s2, s3, s4⟩ := hD.rt.step hpl hxl
    have hel : (edC (toE L nx p ++ rowE nx p x)).length = (p * L + x) * 3 := by simp
    refine awp_cond (b := true) (p := 2) (by simp [scal, hxl] <;> omega) ?_
    refine awp_skip ?_
    show awp _ _ _ _
    refine awp_seq ?_
    refine awp_block ?_
    refine awp_seqR fun K hK => ?_
    simp (disch := omega) [ints, rows, scal, wr64, wr8, s3, s4]
    (repeat' first | apply hK | apply And.intro) <;> try first | (show okH _ _ _ = true; kernel_rfl) | omega | rfl | (simp <;> omega)
    refine awp_R fun K hK => ?_
    simp (disch := omega) [ints, rows, scal, wr64, wr8, hel]
    (repeat' first | apply hK | apply And.intro) <;> try first | (show okH _ _ _ = true; kernel_rfl) | omega | rfl | (simp <;> omega)
    show awp _ _ _ _
    refine awp_R fun K hK => ?_
    simp (disch := omega) [ints, rows, scal, wr64, wr8]
    (repeat' first | apply hK | apply And.intro) <;> try first | (show okH _ _ _ = true; kernel_rfl) | omega | rfl | (simp <;> omega)
    refine ⟨x + 1, by omega, by omega, ?_⟩
    refine wk_list [(0, some 0), (1, some 1), (2, some 2), (3, some 3)] rfl ?_ ?_ ?_ ?_
    all_goals try simp [ints, dfO, bools, rows, rowE_succ, edC_snoc, ← List.append_assoc]
    omega
   ·obtain rfl : x = L := by omega
    refine awp_cond (b := false) (p := 2) (by simp [scal] <;> omega) ?_
    refine awp_exit ?_
    show awp _ _ _ _
    refine awp_R fun K hK => ?_
    simp (disch := omega) [ints, rows, scal, wr64, wr8]
    (repeat' first | apply hK | apply And.intro) <;> try first | (show okH _ _ _ = true; kernel_rfl) | omega | rfl | (simp <;> omega)
    refine ⟨p + 1, by omega, by omega, ?_⟩
    refine wk_list [(0, some 0), (1, some 1), (2, some 2), (3, some 3)] rfl ?_ ?_ ?_ ?_
    all_goals try simp [ints, dfO, bools, rows, toE, Nat.add_mul]
  ·refine awp_seqR fun K hK => ?_
   simp (disch := omega) [ints, rows, scal, wr64, wr8, dfO, bools, hpb]
   (repeat' first | apply hK | apply And.intro) <;> try first | (show okH _ _ _ = true; kernel_rfl) | omega | rfl | (simp <;> omega)
   cases hb : bs[p] with
   | true =>
    rw [hb, if_pos rfl] at hms
    have hbp := bit2_fn (i := p) (by omega)
    have hb2 := bit_lt (i := p) (by omega)
    have hor := orN (x := finM p bs) (y := 2 ^ p) (by omega) hb2
    rw [← hms] at hor
    generalize 2 ^ p = d at hbp hor
    refine awp_cond (b := true) (p := 2) (by simp [scal, hb] <;> omega) ?_
    refine awp_RD (by kernel_rfl) (fun K hK => ?_)
    simp (disch := omega) [ints, rows, scal, wr64, wr8]
    (repeat' apply And.intro)
    all_goals (try omega)
    refine call_ruleD (caps := []) (hbp) [] [] 2 rfl rfl rfl rfl (by kernel_rfl) (by simp) ?_ trivial trivial rfl trivial trivial (by simp) ?_
    ·simp [scal, rows, ints]
    simp (disch := omega) [ints, rows, scal, wr64, wr8, hor]
    (repeat' first | apply hK | apply And.intro) <;> try first | (show chkD _ _ = true; kernel_rfl) | (show okH _ _ _ = true; kernel_rfl) | omega | rfl | (simp <;> omega)
    refine wk_list [(0, some 0), (1, some 1), (2, some 2), (3, some 3)] rfl ?_ ?_ ?_ ?_
    all_goals try simp [ints, dfO, bools, rows]
   | false =>
    rw [hb, if_neg (by simp)] at hms
    refine awp_cond (b := false) (p := 2) (by simp [scal, hb] <;> omega) ?_
    refine awp_skip ?_
    refine wk_list [(0, some 0), (1, some 1), (2, some 2), (3, some 3)] rfl ?_ ?_ ?_ ?_
    all_goals try simp [ints, dfO, bools, rows, hms]
 ·obtain rfl : p = m := by omega
  refine awp_cond (b := false) (p := 2) (by simp [scal] <;> omega) ?_
  refine awp_exit ?_
  show awp _ _ _ _
  refine awp_seqR fun K hK => ?_
  simp (disch := omega) [ints, rows, scal, wr64, wr8]
  (repeat' first | apply hK | apply And.intro) <;> try first | (show okH _ _ _ = true; kernel_rfl) | omega | rfl | (simp <;> omega)
  refine awp_ret ?_
  refine ⟨⟨.inr rfl, _, [], (by simp; rfl), trivial, trivial, by simp [nfT, dfT], ?_⟩, by simp [nfT, dfT]⟩
  simp [ints, rows, nfT, dfT]
def RvOK (L m : Nat) (nx : List (List Int)) (es : List Ed) : Prop := RevE L m nx es ∧ EdOK L m es ∧ es.length ≤ 100
theorem rvOK_of {L m s : Nat} {bs : List Bool} {nx : List (List Int)} (hD : DfL L m s bs nx) (hL2 : L ≤ 6) (hm : m ≤ 9) {out : List Ed} (hS : SrI ((toE L nx m).map turnE) (m * L) out) : RvOK L m nx out := by
 obtain ⟨h1, h2, h3⟩ := hS
 have hle : m * L ≤ 9 * 6 := Nat.mul_le_mul hm hL2
 have hall : ((toE L nx m).map turnE).take (m * L) = (toE L nx m).map turnE := List.take_of_length_le (by simp)
 have hmem : ∀ e : Ed, e ∈ out ↔ e.1 < m ∧ e.2.1 < L ∧ e.2.2 < m ∧ stepR nx e.2.2 e.2.1 = e.1 := fun e => by
  rw [h2, hall, ← srtE_mem]
  exact (revE_ok hD hL2 (by omega)).1.mem e
 exact ⟨⟨hmem, by omega⟩, ⟨fun e he => ⟨((hmem e).1 he).1, ((hmem e).1 he).2.1, ((hmem e).1 he).2.2.1⟩, fun i h => List.pairwise_iff_getElem.1 h1 i (i + 1) (by omega) h (by omega)⟩, by omega⟩
theorem rvOK_srt {L m : Nat} {nx : List (List Int)} {es out : List Ed} (h : RvOK L m nx es) (hS : SrI es es.length out) : RvOK L m nx out := by
 obtain ⟨h1, h2, h3⟩ := hS
 rw [List.take_length] at h2
 have hmem : ∀ e : Ed, e ∈ out ↔ e.1 < m ∧ e.2.1 < L ∧ e.2.2 < m ∧ stepR nx e.2.2 e.2.1 = e.1 := fun e => by rw [h2]; exact h.1.mem e
 exact ⟨⟨hmem, by have := h.2.2; omega⟩, ⟨fun e he => ⟨((hmem e).1 he).1, ((hmem e).1 he).2.1, ((hmem e).1 he).2.2.1⟩, fun i h => List.pairwise_iff_getElem.1 h1 i (i + 1) (by omega) h (by omega)⟩, by have := h.2.2; omega⟩
set_option maxRecDepth 100000 in
set_option maxHeartbeats 8000000 in
theorem rreverse6_fn {L m st fi : Nat} {es : List Ed} (hl : es.length ≤ 400) : ∃ res, (∃ out, SrI (es.map turnE) es.length out ∧ res = nfT 2 L m fi st out) ∧ FnS Tryd.prog 79 [nfT 0 L m st fi es] [] res [] := by
 obtain ⟨_, ⟨out, hS, rfl⟩, hsort⟩ := sorted_fn (es := es.map turnE) (by simp; omega)
 rw [List.length_map] at hS
 refine fn_introE Tryd.func79 rfl (by simp [Tryd.f79]) ?_
 rw [show Tryd.f79.ntmps = 35 from rfl, show Tryd.f79.results = #[.cell 2 123] from rfl]
 refine awp_seqR fun K hK => ?_
 simp (disch := omega) [ints, rows, scal, wr64, wr8, nfT]
 (repeat' first | apply hK | apply And.intro) <;> try first | (show okH _ _ _ = true; kernel_rfl) | omega | rfl | (simp <;> omega)
 refine awp_seqR fun K hK => ?_
 simp (disch := omega) [ints, rows, scal, wr64, wr8]
 (repeat' first | apply hK | apply And.intro) <;> try first | (show okH _ _ _ = true; kernel_rfl) | omega | rfl | (simp <;> omega)
 refine awp_seq ?_
 refine awp_seqR fun K hK => ?_
 simp (disch := omega) [ints, rows, scal, wr64, wr8]
 (repeat' first | apply hK | apply And.intro) <;> try first | (show okH _ _ _ = true; kernel_rfl) | omega | rfl | (simp <;> omega)
 refine awp_block ?_
 refine awp_loop (fun k : Nat => mkS [(1, .ptr 0 0 5), (2, .ptr 1 0 5), (3, .own 2 (k * 3)), (7, .t 0 (.sl 3 (edC es))), (8, .t 2 (.int .i64 es.length)), (9, .t 2 (.int .i64 k))]
   [(0, nfO 0 L m st fi es), (1, .box 123 [.any, .any, .any, .any, .any]), (2, .row 143 3 2 (edC (turnK es k)))] 3 35 [.any]) (fun k => k ≤ es.length) (fun k => es.length - k) ?_ ?_
 ·refine ⟨0, by omega, ?_⟩
  refine wk_list [(0, some 0), (1, some 1000000), (2, none)] rfl ?_ ?_ ?_ ?_
  all_goals try simp [ints, edC, turnK_zero, nfO]
 intro k hk
 refine awp_seqR fun K hK => ?_
 simp (disch := omega) [ints, rows, scal, wr64, wr8]
 (repeat' first | apply hK | apply And.intro) <;> try first | (show okH _ _ _ = true; kernel_rfl) | omega | rfl | (simp <;> omega)
 refine awp_seq ?_
 by_cases hkl : k < es.length
 ·have hat := ed_at hkl
  have hin := ed_in hkl
  have htk := turnK_succ hkl
  have hel : (turnK es k).length = k := turnK_len (by omega)
  refine awp_cond (b := true) (p := 2) (by simp [scal, hkl] <;> omega) ?_
  refine awp_skip ?_
  show awp _ _ _ _
  refine awp_seq ?_
  refine awp_block ?_
  refine awp_seqR fun K hK => ?_
  simp (disch := omega) [ints, rows, scal, wr64, wr8, hat, hin]
  (repeat' first | apply hK | apply And.intro) <;> try first | (show okH _ _ _ = true; kernel_rfl) | omega | rfl | (simp <;> omega)
  refine awp_R fun K hK => ?_
  simp (disch := omega) [ints, rows, scal, wr64, wr8, hel]
  (repeat' first | apply hK | apply And.intro) <;> try first | (show okH _ _ _ = true; kernel_rfl) | omega | rfl | (simp <;> omega)
  show awp _ _ _ _
  refine awp_R fun K hK => ?_
  simp (disch := omega) [ints, rows, scal, wr64, wr8]
  (repeat' first | apply hK | apply And.intro) <;> try first | (show okH _ _ _ = true; kernel_rfl) | omega | rfl | (simp <;> omega)
  refine ⟨k + 1, by omega, by omega, ?_⟩
  refine wk_list [(0, some 0), (1, some 1), (2, some 2)] rfl ?_ ?_ ?_ ?_
  all_goals try simp [ints, htk, edC_snoc, turnE, Nat.add_mul, hel, nfO]
 ·obtain rfl : k = es.length := by omega
  refine awp_cond (b := false) (p := 2) (by simp [scal] <;> omega) ?_
  refine awp_exit ?_
  show awp _ _ _ _
  rw [turnK_all]
  refine awp_seqD (by kernel_rfl) (fun K hK => ?_)
  simp (disch := omega) [ints, rows, scal, wr64, wr8, nfO]
  (repeat' apply And.intro)
  all_goals (try omega)
  refine call_ruleD (caps := []) (hsort) [] [] 2 rfl rfl rfl rfl (by kernel_rfl) (by simp) ?_ trivial trivial rfl trivial trivial (by simp) ?_
  ·simp [scal, rows, ints]
  simp (disch := omega) [ints, rows, scal, wr64, wr8]
  (repeat' first | apply hK | apply And.intro) <;> try first | (show chkD _ _ = true; kernel_rfl) | (show okH _ _ _ = true; kernel_rfl) | omega | rfl | (simp <;> omega)
  refine awp_ret ?_
  refine ⟨_, ⟨out, hS, rfl⟩, ?_⟩
  refine ⟨⟨.inr rfl, _, [], (by simp; rfl), trivial, trivial, by simp [nfT], ?_⟩, by simp [nfT]⟩
  simp [ints, rows, nfT]

attribute [local simp] KL_ap KD_ap awpL_nil awpL_cons awpD_nil awpD_cons awpOp awpOpD wrE gd aop aBuiltin aNil aMin ASt.eval AV.ofV dstOk ASt.app Eff.heap dels upd_b aLoad aStore aField aFieldV aIndexAddr aIndex aSlice aSliceO aLen aBin iB sB aUn aConv aAlloc aBox aBuild afill avCells AV.leaf setR aBuildSlice frz frzL isOwn vecOf tsOf aMake srcOf aAppend aMkMap aMapUpd aLookup oint cut putL AObj.cnt mkS envOf_nil envOf_cons heapOf_nil heapOf_cons argS Nat.blt_eq callS outV outVs outO heap2 addL delL List.getElem?_cons_zero okO inPs inP wkE wkP wkPs wkH wkO keysNd unm mpOf_nil mpOf_cons ghA ghA1 resV
set_option linter.unusedSimpArgs false

theorem ofX_new {v : Nat} {ss : List Nat} (h : ixA v ss = none) : ofX v ss = (ss ++ [v], ss.length) := by simp [ofX, h]
theorem ofX_old {v j : Nat} {ss : List Nat} (h : ixA v ss = some j) : ofX v ss = (ss, j) := by simp [ofX, h]
set_option maxRecDepth 100000 in
set_option maxHeartbeats 16000000 in
theorem rsubset_fn {L m s S0 : Nat} {bs : List Bool} {nx : List (List Int)} {es : List Ed} (hD : DfL L m s bs nx) (hL : 1 ≤ L) (hL2 : L ≤ 6) (hm : m ≤ 9) (hS0 : S0 < 2 ^ m) (hE0 : RvOK L m nx es) : ∃ res, (∃ ss bs' nx', ExI L (2 ^ m) S0 (powB m) (powN L m nx) ss bs' nx' ss.length ∧ FO L (powN L m nx) ss (ss.length * L) ∧ res = .tup [dfT 2 L 0 bs' nx', .t 2 (.sl 1 (u64T ss)), .t 2 (.int .i64 0)]) ∧
  FnS Tryd.prog 98 [nfT 0 L m S0 1 es] [] res [] := by
 have hz1 : zero1 Tryd.prog 3 = some (.int .i64 0) := by kernel_rfl
 obtain ⟨hR0, hEd, hel⟩ := hE0
 have h := pow_df L nx hS0
 have h1m : 1 < 2 ^ m := Nat.one_lt_two_pow (by have := hD.n1; omega)
 have hval := validate06_fn hEd hL hL2 (by omega) hS0 h1m (by omega)
 have hn : 2 ^ m ≤ 512 := Nat.le_trans (Nat.pow_le_pow_right (by omega) hm) (by decide)
 have hstep := fun (S x : Nat) (hS : S < 2 ^ m) (hx : x < L) => (rStp_all (S := S) hD hR0 hx) ▸ rstep_fn (st := S0) (fi := 1) (x := x) hEd (by omega) hS (by omega)
 obtain ⟨n, hn0⟩ : ∃ n, n = 2 ^ m := ⟨_, rfl⟩
 rw [← hn0] at h hn hS0 hstep ⊢
 have hst := h.st
 refine fn_introE Tryd.func98 rfl (by simp [Tryd.f98]) ?_
 rw [show Tryd.f98.ntmps = 96 from rfl, show Tryd.f98.results = #[.cell 2 32, .tmp 3, .tmp 4] from rfl]
 refine awp_seqR fun K hK => ?_
 simp (disch := omega) [ints, rows, scal, wr64, wr8, nfT]
 (repeat' first | apply hK | apply And.intro) <;> try first | (show okH _ _ _ = true; kernel_rfl) | omega | rfl | (simp <;> omega)
 refine awp_seq ?_
 refine awp_seqR fun K hK => ?_
 simp (disch := omega) [ints, rows, scal, wr64, wr8]
 (repeat' apply And.intro)
 all_goals (try omega)
 refine call_rule (caps := []) (hval) [] [] 2 rfl rfl rfl rfl (by kernel_rfl) (by simp) ?_ trivial trivial rfl trivial trivial (by simp) ?_
 ·simp [scal, rows, ints, nfT]
 simp (disch := omega) [ints, rows, scal, wr64, wr8]
 (repeat' first | apply hK | apply And.intro) <;> try first | (show okH _ _ _ = true; kernel_rfl) | omega | rfl | (simp <;> omega)
 refine awp_seqR fun K hK => ?_
 simp (disch := omega) [ints, rows, scal, wr64, wr8]
 (repeat' first | apply hK | apply And.intro) <;> try first | (show okH _ _ _ = true; kernel_rfl) | omega | rfl | (simp <;> omega)
 refine awp_cond (b := false) (p := 2) (by simp [scal] <;> omega) ?_
 refine awp_skip ?_
 show awp _ _ _ _
 refine awp_seqR fun K hK => ?_
 simp (disch := omega) [ints, rows, scal, wr64, wr8]
 (repeat' first | apply hK | apply And.intro) <;> try first | (show okH _ _ _ = true; kernel_rfl) | omega | rfl | (simp <;> omega)
 refine awp_seqR fun K hK => ?_
 simp (disch := omega) [ints, rows, scal, wr64, wr8, keyL, hz1, fndT]
 (repeat' first | apply hK | apply And.intro) <;> try first | (show okH _ _ _ = true; kernel_rfl) | omega | rfl | (simp <;> omega)
 refine awp_seqR fun K hK => ?_
 simp (disch := omega) [ints, rows, scal, wr64, wr8]
 (repeat' first | apply hK | apply And.intro) <;> try first | (show okH _ _ _ = true; kernel_rfl) | omega | rfl | (simp <;> omega)
 refine awp_seq ?_
 refine awp_seqR fun K hK => ?_
 simp (disch := omega) [ints, rows, scal, wr64, wr8]
 (repeat' first | apply hK | apply And.intro) <;> try first | (show okH _ _ _ = true; kernel_rfl) | omega | rfl | (simp <;> omega)
 refine awp_block ?_
 refine awp_loop (fun y : Nat × List Nat × List Bool × List (List Int) => mkS [(1, .ptr 0 0 5), (2, .ptr 1 0 4), (6, .own 4 y.2.1.length), (7, .own 5 0), (8, .ptr 3 0 4), (9, .t 2 (.int .i64 y.1))]
  [(0, nfO 0 L m S0 1 es), (1, .box 32 [.any, .any, .any, .any]), (3, .box 32 [.t 2 (.int .i64 L), .t 2 (.int .i64 0), .own 6 y.1, .own 7 y.1]), (4, .row 73 1 2 (u64T y.2.1)), (5, .map 73 3 (kents unT 0 y.2.1)), (6, .row 4 1 2 (y.2.2.1.map .bool)), (7, .row 22 1 2 (y.2.2.2.map ints))]
  8 96 [.any]) (fun y => ExI L n S0 (powB m) (powN L m nx) y.2.1 y.2.2.1 y.2.2.2 y.1 ∧ FO L (powN L m nx) y.2.1 (y.1 * L)) (fun y => n - y.1) ?_ ?_
 ·refine ⟨(0, [S0], [], []), ⟨ExI.start hst, FO.start⟩, ?_⟩
  refine wk_list [(0, some 0), (1, some 1000000), (3, some 22000000), (4, some 11000000), (5, some 13000000), (6, none), (7, none)] rfl ?_ ?_ ?_ ?_
  all_goals try simp [ints, rows, bools, u64T, kents, unT, nfO]
 rintro ⟨i, ss, bs', nx'⟩ ⟨hE, hF⟩
 simp only at hE hF
 have hbl := hE.bl
 have hnl := hE.nl
 have hsl := hE.len
 have hile := hE.le
 refine awp_seq ?_
 refine awp_seqR fun K hK => ?_
 simp (disch := omega) [ints, rows, scal, wr64, wr8]
 (repeat' first | apply hK | apply And.intro) <;> try first | (show okH _ _ _ = true; kernel_rfl) | omega | rfl | (simp <;> omega)
 by_cases hil : i < ss.length
 ·refine awp_cond (b := true) (p := 2) (by simp [scal, hil] <;> omega) ?_
  obtain ⟨q, hq⟩ : ∃ q, ss[i]? = some q := ⟨_, List.getElem?_eq_getElem hil⟩
  have hqn := hE.lt q (List.mem_of_getElem? hq)
  refine awp_skip ?_
  show awp _ _ _ _
  refine awp_seq ?_
  refine awp_block ?_
  refine awp_seqR fun K hK => ?_
  simp (disch := omega) [ints, rows, scal, wr64, wr8]
  (repeat' first | apply hK | apply And.intro) <;> try first | (show okH _ _ _ = true; kernel_rfl) | omega | rfl | (simp <;> omega)
  refine awp_seq ?_
  refine awp_seqR fun K hK => ?_
  simp (disch := omega) [ints, rows, scal, wr64, wr8]
  (repeat' first | apply hK | apply And.intro) <;> try first | (show okH _ _ _ = true; kernel_rfl) | omega | rfl | (simp <;> omega)
  refine awp_block ?_
  refine awp_loop (fun y : Nat × List Nat × List Int => mkS [(1, .ptr 0 0 5), (2, .ptr 1 0 4), (6, .own 4 y.2.1.length), (7, .own 5 0), (8, .ptr 3 0 4), (9, .t 2 (.int .i64 i)), (10, .own 8 y.1), (11, .t 2 (.int .i64 y.1))]
   [(0, nfO 0 L m S0 1 es), (1, .box 32 [.any, .any, .any, .any]), (3, .box 32 [.t 2 (.int .i64 L), .t 2 (.int .i64 0), .own 6 i, .own 7 i]), (4, .row 73 1 2 (u64T y.2.1)), (5, .map 73 3 (kents unT 0 y.2.1)), (6, .row 4 1 2 (bs'.map .bool)), (7, .row 22 1 2 (nx'.map ints)), (8, .row 3 1 2 (y.2.2.map (.int .i64)))]
   9 96 [.any]) (fun y => ExI L n S0 (powB m) (powN L m nx) y.2.1 bs' nx' i ∧ y.2.1[i]? = some q ∧ y.2.2.length = y.1 ∧ RowI (powN L m nx) y.2.1 q y.2.2 y.1 ∧ y.1 ≤ L ∧ FO L (powN L m nx) y.2.1 (i * L + y.1)) (fun y => L - y.1) ?_ ?_
  ·refine ⟨(0, ss, []), ⟨hE, hq, rfl, fun y hy => by omega, by simp, hF⟩, ?_⟩
   refine wk_list [(0, some 0), (1, some 1), (3, some 3), (4, some 4), (5, some 5), (6, some 6), (7, some 7), (8, none)] rfl ?_ ?_ ?_ ?_
   all_goals try simp [ints, bools, rows, nfO]
  clear hE hF hq hil hsl hile
  rintro ⟨x, ss, r⟩ ⟨hE, hq, hrl, hR, hx, hF⟩
  simp only at hE hq hrl hR hx hF
  have hsl := hE.len
  have hil := (List.getElem?_eq_some_iff.1 hq).1
  have hqg : (u64T ss)[i]? = some (.int .u64 (q : Int)) := by rw [u64T, List.getElem?_map, hq]; rfl
  refine awp_seq ?_
  refine awp_seqR fun K hK => ?_
  simp (disch := omega) [ints, rows, scal, wr64, wr8, nfO]
  (repeat' first | apply hK | apply And.intro) <;> try first | (show okH _ _ _ = true; kernel_rfl) | omega | rfl | (simp <;> omega)
  by_cases hxl : x < L
  ·refine awp_cond (b := true) (p := 2) (by simp [scal, hxl] <;> omega) ?_
   have h1 := hstep q x hqn hxl
   rw [← pow_step nx (S := q) (by omega) hxl] at h1
   obtain ⟨s1, -⟩ := h.rt.step hqn hxl
   generalize hv : stepR (powN L m nx) q x = v at h1 s1
   obtain ⟨hE2, ht, ys, hys⟩ := ofX_spec hE s1
   have hF2 := ofX_FO hF hE hq hR hxl hv
   have hall := kents_all unT (P := Tryd.prog) (K := 73) (fun x => kOK_u64 x) ss 0
   have hfn : fndT (.int .u64 (v : Int)) (kents unT 0 ss) = ixA v ss := fndT_kents (f := unT) ss 0 (fun y _ => unT_eq v y)
   refine awp_skip ?_
   show awp _ _ _ _
   refine awp_seq ?_
   refine awp_block ?_
   refine awp_seqD (by kernel_rfl) (fun K hK => ?_)
   simp (disch := omega) [ints, rows, scal, wr64, wr8, nfO, hqg, hil]
   (repeat' apply And.intro)
   all_goals (try omega)
   refine call_ruleD (caps := []) (h1) [] [] 2 rfl rfl rfl rfl (by kernel_rfl) (by simp) ?_ trivial trivial rfl trivial trivial (by simp) ?_
   ·simp [scal, rows, ints, nfT]
   simp (disch := omega) [ints, rows, scal, wr64, wr8]
   (repeat' first | apply hK | apply And.intro) <;> try first | (show chkD _ _ = true; kernel_rfl) | (show okH _ _ _ = true; kernel_rfl) | omega | rfl | (simp <;> omega)
   cases hxi : ixA v ss with
   | some j =>
    have hj := ixA_get hxi
    have hje := kents_get unT ss 0 j _ hj
    rw [ofX_old hxi] at hE2 ht hys hF2
    simp only at hE2 ht hys hF2
    refine awp_seqR fun K hK => ?_
    simp (disch := omega) [ints, rows, scal, wr64, wr8, keyL, hfn, hxi, hall, hz1, hje]
    (repeat' first | apply hK | apply And.intro) <;> try first | (show okH _ _ _ = true; kernel_rfl) | omega | rfl | (simp <;> omega)
    refine awp_seq ?_
    refine awp_seqR fun K hK => ?_
    simp (disch := omega) [ints, rows, scal, wr64, wr8]
    (repeat' first | apply hK | apply And.intro) <;> try first | (show okH _ _ _ = true; kernel_rfl) | omega | rfl | (simp <;> omega)
    refine awp_cond (b := false) (p := 2) (by simp [scal] <;> omega) ?_
    refine awp_skip ?_
    show awp _ _ _ _
    refine awp_R fun K hK => ?_
    simp (disch := omega) [ints, rows, scal, wr64, wr8, hrl]
    (repeat' first | apply hK | apply And.intro) <;> try first | (show okH _ _ _ = true; kernel_rfl) | omega | rfl | (simp <;> omega)
    show awp _ _ _ _
    refine awp_R fun K hK => ?_
    simp (disch := omega) [ints, rows, scal, wr64, wr8]
    (repeat' first | apply hK | apply And.intro) <;> try first | (show okH _ _ _ = true; kernel_rfl) | omega | rfl | (simp <;> omega)
    refine ⟨(x + 1, ss, r ++ [(j : Int)]), ⟨hE, hq, by simp [hrl], hR.snoc hrl (by rw [hv]; exact ht), by simp only; omega, hF2⟩, by simp only; omega, ?_⟩
    refine wk_list [(0, some 0), (1, some 1), (3, some 3), (4, some 4), (5, some 5), (6, some 6), (7, some 7), (8, some 8)] rfl ?_ ?_ ?_ ?_
    all_goals try simp [ints, nfO, hrl]
   | none =>
    rw [ofX_new hxi] at hE2 ht hys hF2
    simp only at hE2 ht hys hF2
    have hsl2 := hE2.len
    simp only [List.length_append, List.length_singleton] at hsl2
    have h512 : ((ss.length : Int) == 512) = false := beq_eq_false_iff_ne.2 (by omega)
    have h512n : ¬ ss.length = 512 := by omega
    refine awp_seqR fun K hK => ?_
    simp (disch := omega) [ints, rows, scal, wr64, wr8, keyL, hfn, hxi, hall, hz1]
    (repeat' first | apply hK | apply And.intro) <;> try first | (show okH _ _ _ = true; kernel_rfl) | omega | rfl | (simp <;> omega)
    refine awp_seq ?_
    refine awp_seqR fun K hK => ?_
    simp (disch := omega) [ints, rows, scal, wr64, wr8]
    (repeat' first | apply hK | apply And.intro) <;> try first | (show okH _ _ _ = true; kernel_rfl) | omega | rfl | (simp <;> omega)
    refine awp_cond (b := true) (p := 2) (by simp [scal] <;> omega) ?_
    refine awp_seq ?_
    refine awp_seqR fun K hK => ?_
    simp (disch := omega) [ints, rows, scal, wr64, wr8, h512]
    (repeat' first | apply hK | apply And.intro) <;> try first | (show okH _ _ _ = true; kernel_rfl) | omega | rfl | (simp <;> omega)
    refine awp_cond (b := false) (p := 2) (by simp [scal, h512, h512n] <;> omega) ?_
    refine awp_skip ?_
    show awp _ _ _ _
    refine awp_seqR fun K hK => ?_
    simp (disch := omega) [ints, rows, scal, wr64, wr8]
    (repeat' first | apply hK | apply And.intro) <;> try first | (show okH _ _ _ = true; kernel_rfl) | omega | rfl | (simp <;> omega)
    refine awp_seqR fun K hK => ?_
    simp (disch := omega) [ints, rows, scal, wr64, wr8, keyL, hfn, hxi, hall]
    (repeat' first | apply hK | apply And.intro) <;> try first | (show okH _ _ _ = true; kernel_rfl) | omega | rfl | (simp <;> omega)
    refine awp_R fun K hK => ?_
    simp (disch := omega) [ints, rows, scal, wr64, wr8]
    (repeat' first | apply hK | apply And.intro) <;> try first | (show okH _ _ _ = true; kernel_rfl) | omega | rfl | (simp <;> omega)
    show awp _ _ _ _
    refine awp_R fun K hK => ?_
    simp (disch := omega) [ints, rows, scal, wr64, wr8, hrl]
    (repeat' first | apply hK | apply And.intro) <;> try first | (show okH _ _ _ = true; kernel_rfl) | omega | rfl | (simp <;> omega)
    show awp _ _ _ _
    refine awp_R fun K hK => ?_
    simp (disch := omega) [ints, rows, scal, wr64, wr8]
    (repeat' first | apply hK | apply And.intro) <;> try first | (show okH _ _ _ = true; kernel_rfl) | omega | rfl | (simp <;> omega)
    refine ⟨(x + 1, ss ++ [v], r ++ [(ss.length : Int)]), ⟨hE2, by simp only; rw [List.getElem?_append_left hil]; exact hq, by simp [hrl], RowI.snoc (hR.app [v]) hrl (by rw [hv]; exact ht), by simp only; omega, hF2⟩, by simp only; omega, ?_⟩
    refine wk_list [(0, some 0), (1, some 1), (3, some 3), (4, some 4), (5, some 5), (6, some 6), (7, some 7), (8, some 8)] rfl ?_ ?_ ?_ ?_
    all_goals try simp [ints, nfO, hrl, kents_snoc, u64T_snoc, unT]
  ·obtain rfl : x = L := by omega
   have hqb : (powB m)[q]? = some (q.testBit 0) := tab_get _ (by omega)
   obtain ⟨c, hc⟩ : ∃ c, c = q &&& 1 := ⟨_, rfl⟩
   have ha : andI .u64 (q : Int) 1 = (c : Int) := by rw [hc]; exact andN (x := q) (y := 1) (by omega) (by omega)
   have hb : q.testBit 0 = decide (c ≠ 0) := by rw [hc]; exact (and_one_bit q).symm
   have hb2 : ((c : Int) != 0) = q.testBit 0 := by rw [hb, Bool.eq_iff_iff]; simp
   have hb3 : (!decide (c = 0)) = q.testBit 0 := by rw [hb]; simp
   refine awp_cond (b := false) (p := 2) (by simp [scal] <;> omega) ?_
   refine awp_exit ?_
   show awp _ _ _ _
   refine awp_RD (by kernel_rfl) (fun K hK => ?_)
   simp (disch := omega) [ints, rows, scal, wr64, wr8, nfO, hqg, hil, hbl, hnl, hrl, ha, hb2]
   (repeat' first | apply hK | apply And.intro) <;> try first | (show chkD _ _ = true; kernel_rfl) | (show okH _ _ _ = true; kernel_rfl) | omega | rfl | (simp <;> omega)
   show awp _ _ _ _
   refine awp_R fun K hK => ?_
   simp (disch := omega) [ints, rows, scal, wr64, wr8]
   (repeat' first | apply hK | apply And.intro) <;> try first | (show okH _ _ _ = true; kernel_rfl) | omega | rfl | (simp <;> omega)
   refine ⟨(i + 1, ss, bs' ++ [q.testBit 0], nx' ++ [r]), ⟨hE.done hq hqb hrl hR, by simp only; rw [Nat.add_mul, Nat.one_mul]; exact hF⟩, by simp only; omega, ?_⟩
   refine wk_list [(0, some 0), (1, some 1), (3, some 3), (4, some 4), (5, some 5), (6, some 6), (7, some 7)] rfl ?_ ?_ ?_ ?_
   all_goals try simp [ints, nfO, hbl, hnl]
 ·obtain rfl : i = ss.length := by omega
  refine awp_cond (b := false) (p := 2) (by simp [scal] <;> omega) ?_
  refine awp_exit ?_
  show awp _ _ _ _
  refine awp_seqR fun K hK => ?_
  simp (disch := omega) [ints, rows, scal, wr64, wr8]
  (repeat' first | apply hK | apply And.intro) <;> try first | (show okH _ _ _ = true; kernel_rfl) | omega | rfl | (simp <;> omega)
  refine awp_ret ?_
  refine ⟨_, ⟨ss, bs', nx', hE, hF, rfl⟩, ?_⟩
  refine ⟨⟨.inr rfl, _, [], (by simp; rfl), trivial, trivial, by simp [nfT, dfT, bools, hbl, hnl], ?_⟩, by simp [nfT, dfT, bools, hbl, hnl]⟩
  simp [ints, rows, nfT, dfT, bools, hbl, hnl]

attribute [local simp] KL_ap KD_ap awpL_nil awpL_cons awpD_nil awpD_cons awpOp awpOpD wrE gd aop aBuiltin aNil aMin ASt.eval AV.ofV dstOk ASt.app Eff.heap dels upd_b aLoad aStore aField aFieldV aIndexAddr aIndex aSlice aSliceO aLen aBin iB sB aUn aConv aAlloc aBox aBuild afill avCells AV.leaf setR aBuildSlice frz frzL isOwn vecOf tsOf aMake srcOf aAppend aMkMap aMapUpd aLookup oint cut putL AObj.cnt mkS envOf_nil envOf_cons heapOf_nil heapOf_cons argS Nat.blt_eq callS outV outVs outO heap2 addL delL List.getElem?_cons_zero okO inPs inP resV ghA ghA1 wkPs wkP unm
set_option linter.unusedSimpArgs false

set_option maxRecDepth 100000 in
set_option maxHeartbeats 8000000 in
theorem rof_fn {L m : Nat} {bs : List Bool} {nx : List (List Int)} {es : List Ed} (hD : DfL L m 0 bs nx) (hL : 1 ≤ L) (hL2 : L ≤ 6) (hm : m ≤ 9) (hE0 : RvOK L m nx es) : ∃ res, (∃ m2 b2 nx2, RvX L m bs nx m2 b2 nx2 ∧ res = .tup [dfT 2 L 0 b2 nx2, .t 2 (.int .i64 0)]) ∧ FnS Tryd.prog 78 [nfT 0 L m (finM m bs) 1 es] [] res [] := by
 have hfm : finM m bs < 2 ^ m := mkM_lt _ _
 have hel := hE0.2.2
 obtain ⟨_, ⟨out, hS, rfl⟩, hsort⟩ := sorted_fn (es := es) (by omega)
 obtain ⟨_, ⟨ss, bs', nx', hX, hF, rfl⟩, hsub⟩ := rsubset_fn hD hL hL2 hm hfm (rvOK_srt hE0 hS)
 obtain ⟨hX1, hX2⟩ := hX.fin
 have hn : ss.length ≤ 512 := Nat.le_trans hX.len (Nat.le_trans (Nat.pow_le_pow_right (by omega) hm) (by decide))
 obtain ⟨_, ⟨m2, b2, nx2, hM, rfl⟩, hmin⟩ := minimalX_fn hX1 hL hL2 hn
 have hRv : RvX L m bs nx m2 b2 nx2 := ⟨hM.mn, Nat.le_trans hM.le hn, fun w hw => by rw [hM.lang w hw, hX2 w hw, pow_rev hD hw]⟩
 have h64 : ¬ (64 : Int) < (m : Int) := by omega
 refine fn_introE Tryd.func78 rfl (by simp [Tryd.f78]) ?_
 rw [show Tryd.f78.ntmps = 27 from rfl, show Tryd.f78.results = #[.cell 2 32, .tmp 3] from rfl]
 refine awp_seqR fun K hK => ?_
 simp (disch := omega) [ints, rows, scal, wr64, wr8, nfT]
 (repeat' first | apply hK | apply And.intro) <;> try first | (show okH _ _ _ = true; kernel_rfl) | omega | rfl | (simp <;> omega)
 refine awp_seq ?_
 refine awp_seqR fun K hK => ?_
 simp (disch := omega) [ints, rows, scal, wr64, wr8, h64]
 (repeat' first | apply hK | apply And.intro) <;> try first | (show okH _ _ _ = true; kernel_rfl) | omega | rfl | (simp <;> omega)
 refine awp_cond (b := false) (p := 2) (by simp [scal, h64] <;> omega) ?_
 refine awp_skip ?_
 show awp _ _ _ _
 refine awp_seqR fun K hK => ?_
 simp (disch := omega) [ints, rows, scal, wr64, wr8]
 (repeat' apply And.intro)
 all_goals (try omega)
 refine call_rule (caps := []) (hsort) [] [] 2 rfl rfl rfl rfl (by kernel_rfl) (by simp) ?_ trivial trivial rfl trivial trivial (by simp) ?_
 ·simp [scal, rows, ints]
 simp (disch := omega) [ints, rows, scal, wr64, wr8]
 (repeat' first | apply hK | apply And.intro) <;> try first | (show okH _ _ _ = true; kernel_rfl) | omega | rfl | (simp <;> omega)
 refine awp_seqR fun K hK => ?_
 simp (disch := omega) [ints, rows, scal, wr64, wr8]
 (repeat' apply And.intro)
 all_goals (try omega)
 refine call_rule (caps := []) (hsub) [] [] 2 rfl rfl rfl rfl (by kernel_rfl) (by simp) ?_ trivial trivial rfl trivial trivial (by simp) ?_
 ·simp [scal, rows, ints, nfT]
 simp (disch := omega) [ints, rows, scal, wr64, wr8, dfT, bools]
 (repeat' first | apply hK | apply And.intro) <;> try first | (show okH _ _ _ = true; kernel_rfl) | omega | rfl | (simp <;> omega)
 refine awp_seq ?_
 refine awp_seqR fun K hK => ?_
 simp (disch := omega) [ints, rows, scal, wr64, wr8]
 (repeat' first | apply hK | apply And.intro) <;> try first | (show okH _ _ _ = true; kernel_rfl) | omega | rfl | (simp <;> omega)
 refine awp_cond (b := false) (p := 2) (by simp [scal] <;> omega) ?_
 refine awp_skip ?_
 show awp _ _ _ _
 refine awp_seqR fun K hK => ?_
 simp (disch := omega) [ints, rows, scal, wr64, wr8]
 (repeat' apply And.intro)
 all_goals (try omega)
 refine call_rule (caps := []) (hmin) [] [] 2 rfl rfl rfl rfl (by kernel_rfl) (by simp) ?_ trivial trivial rfl trivial trivial (by simp) ?_
 ·simp [scal, rows, ints, dfT, bools]
 simp (disch := omega) [ints, rows, scal, wr64, wr8, dfT, bools]
 (repeat' first | apply hK | apply And.intro) <;> try first | (show okH _ _ _ = true; kernel_rfl) | omega | rfl | (simp <;> omega)
 refine awp_ret ?_
 refine ⟨_, ⟨m2, b2, nx2, hRv, rfl⟩, ?_⟩
 refine ⟨⟨.inr rfl, _, [], (by simp; rfl), trivial, trivial, by simp [nfT, dfT, bools], ?_⟩, by simp [nfT, dfT, bools]⟩
 simp [ints, rows, nfT, dfT, bools]
set_option maxRecDepth 100000 in
set_option maxHeartbeats 8000000 in
theorem rreverse_fn {L n s : Nat} {bs : List Bool} {nxt : List (List Int)} (h : DfL L n s bs nxt) (hL : 1 ≤ L) (hL2 : L ≤ 6) (hn : n ≤ 9) : ∃ res, (∃ m b1 nx m2 b2 nx2, MiX L n s bs nxt m b1 nx ∧ RvX L m b1 nx m2 b2 nx2 ∧ res = .tup [dfT 2 L 0 b2 nx2, .t 2 (.int .i64 0)]) ∧ FnS Tryd.prog 53 [dfT 0 L s bs nxt] [] res [] := by
 obtain ⟨_, ⟨m, b1, nx, hX, rfl⟩, hmin⟩ := minimalX_fn h hL hL2 (by omega)
 have hD := hX.mn.df
 have hm : m ≤ 9 := Nat.le_trans hX.le hn
 have hmL2 : m * L ≤ 9 * 6 := Nat.mul_le_mul hm hL2
 have hbe := begin_fn hD hL hL2 (by omega)
 obtain ⟨_, ⟨out, hS, rfl⟩, hrv⟩ := rreverse6_fn (L := L) (m := m) (st := 1) (fi := finM m b1) (es := toE L nx m) (by simp; omega)
 rw [toE_len] at hS
 obtain ⟨_, ⟨m2, b2, nx2, hR, rfl⟩, hof⟩ := rof_fn hD hL hL2 hm (rvOK_of hD hL2 hm hS)
 have h64 : ¬ (64 : Int) < (m : Int) := by omega
 refine fn_introE Tryd.func53 rfl (by simp [Tryd.f53]) ?_
 rw [show Tryd.f53.ntmps = 17 from rfl, show Tryd.f53.results = #[.cell 2 32, .tmp 3] from rfl]
 refine awp_seqR fun K hK => ?_
 simp (disch := omega) [ints, rows, scal, wr64, wr8, dfT, bools]
 (repeat' first | apply hK | apply And.intro) <;> try first | (show okH _ _ _ = true; kernel_rfl) | omega | rfl | (simp <;> omega)
 refine awp_seqR fun K hK => ?_
 simp (disch := omega) [ints, rows, scal, wr64, wr8]
 (repeat' apply And.intro)
 all_goals (try omega)
 refine call_rule (caps := []) (hmin) [] [] 2 rfl rfl rfl rfl (by kernel_rfl) (by simp) ?_ trivial trivial rfl trivial trivial (by simp) ?_
 ·simp [scal, rows, ints, dfT, bools]
 simp (disch := omega) [ints, rows, scal, wr64, wr8, dfT, bools]
 (repeat' apply And.intro)
 all_goals (try omega)
 refine call_rule (caps := []) (hbe) [] [] 2 rfl rfl rfl rfl (by kernel_rfl) (by simp) ?_ trivial trivial rfl trivial trivial (by simp) ?_
 ·simp [scal, rows, ints, dfT, bools]
 simp (disch := omega) [ints, rows, scal, wr64, wr8, nfT]
 (repeat' first | apply hK | apply And.intro) <;> try first | (show okH _ _ _ = true; kernel_rfl) | omega | rfl | (simp <;> omega)
 refine awp_seq ?_
 refine awp_seqR fun K hK => ?_
 simp (disch := omega) [ints, rows, scal, wr64, wr8, h64]
 (repeat' first | apply hK | apply And.intro) <;> try first | (show okH _ _ _ = true; kernel_rfl) | omega | rfl | (simp <;> omega)
 refine awp_cond (b := false) (p := 2) (by simp [scal, h64] <;> omega) ?_
 refine awp_skip ?_
 show awp _ _ _ _
 refine awp_seqR fun K hK => ?_
 simp (disch := omega) [ints, rows, scal, wr64, wr8]
 (repeat' apply And.intro)
 all_goals (try omega)
 refine call_rule (caps := []) (hrv) [] [] 2 rfl rfl rfl rfl (by kernel_rfl) (by simp) ?_ trivial trivial rfl trivial trivial (by simp) ?_
 ·simp [scal, rows, ints, nfT]
 simp (disch := omega) [ints, rows, scal, wr64, wr8, nfT]
 (repeat' apply And.intro)
 all_goals (try omega)
 refine call_rule (caps := []) (hof) [] [] 2 rfl rfl rfl rfl (by kernel_rfl) (by simp) ?_ trivial trivial rfl trivial trivial (by simp) ?_
 ·simp [scal, rows, ints, nfT]
 simp (disch := omega) [ints, rows, scal, wr64, wr8, dfT, bools]
 (repeat' first | apply hK | apply And.intro) <;> try first | (show okH _ _ _ = true; kernel_rfl) | omega | rfl | (simp <;> omega)
 refine awp_ret ?_
 refine ⟨_, ⟨m, b1, nx, m2, b2, nx2, hX, hR, rfl⟩, ?_⟩
 refine ⟨⟨.inr rfl, _, [], (by simp; rfl), trivial, trivial, by simp [dfT, bools], ?_⟩, by simp [dfT, bools]⟩
 simp [ints, rows, dfT, bools]
end Go.Proofs.YtnffigeofdagfaaDoor.M
