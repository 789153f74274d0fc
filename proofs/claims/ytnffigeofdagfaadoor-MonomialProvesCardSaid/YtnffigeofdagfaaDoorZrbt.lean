/-
  Walk in my logic: ToNFA (dfa).
  Walk in my logic: Reverse (nfa).
  Walks in my logic: Subset (dfa), language, minimal, Reverse (lang).
-/
import Derived.Test.YtnffigeofdagfaaDoorZrbs
import Derived.Test.YtnffigeofdagfaaDoorZrah
import Derived.Test.YtnffigeofdagfaaDoorZrbc
namespace Go.Proofs.YtnffigeofdagfaaDoor.M
open Go.RowKit
set_option linter.unusedVariables false
attribute [local simp] KL_ap KD_ap awpL_nil awpL_cons awpD_nil awpD_cons awpOp awpOpD wrE gd aop aBuiltin aNil aMin ASt.eval AV.ofV dstOk ASt.app Eff.heap dels upd_b aLoad aStore aField aFieldV aIndexAddr aIndex aSlice aSliceO aLen aBin iB sB aUn aConv aAlloc aBox aBuild afill avCells AV.leaf setR aBuildSlice frz frzL isOwn vecOf tsOf aMake srcOf aAppend aMkMap aMapUpd aLookup oint cut putL AObj.cnt mkS envOf_nil envOf_cons heapOf_nil heapOf_cons argS Nat.blt_eq callS outV outVs outO heap2 addL delL List.getElem?_cons_zero okO inPs inP wkE wkP wkPs wkH wkO keysNd unm mpOf_nil mpOf_cons ghA ghA1 resV
set_option linter.unusedSimpArgs false

def rowE (nx : List (List Int)) (p x : Nat) : List Ed := (List.range x).map fun a => (p, a, stepR nx p a)
def toE (L : Nat) (nx : List (List Int)) : Nat → List Ed
 | 0 => []
 | p + 1 => toE L nx p ++ rowE nx p L
@[simp] theorem rowE_len (nx : List (List Int)) (p x : Nat) : (rowE nx p x).length = x := by simp [rowE]
theorem rowE_succ (nx : List (List Int)) (p x : Nat) : rowE nx p (x + 1) = rowE nx p x ++ [(p, x, stepR nx p x)] := by simp [rowE, List.range_succ]
@[simp] theorem toE_len (L : Nat) (nx : List (List Int)) : ∀ p, (toE L nx p).length = p * L
 | 0 => by simp [toE]
 | p + 1 => by simp [toE, toE_len L nx p, Nat.add_mul]
theorem toE_mem (L : Nat) (nx : List (List Int)) (e : Ed) : ∀ p, e ∈ toE L nx p ↔ e.1 < p ∧ e.2.1 < L ∧ stepR nx e.1 e.2.1 = e.2.2
 | 0 => by simp [toE]
 | p + 1 => by
  unfold toE
  rw [List.mem_append, toE_mem L nx e p]
  obtain ⟨a, b, c⟩ := e
  simp only [rowE, List.mem_map, List.mem_range, Prod.mk.injEq]
  constructor
  ·rintro (⟨h1, h2, h3⟩ | ⟨i, h1, rfl, rfl, h2⟩)
   ·exact ⟨by omega, h2, h3⟩
   ·exact ⟨by omega, h1, h2⟩
  ·rintro ⟨h1, h2, h3⟩
   by_cases h : a = p
   ·subst h
    exact .inr ⟨b, h2, rfl, rfl, h3⟩
   ·exact .inl ⟨by omega, h2, h3⟩
theorem toE_srt (L : Nat) (nx : List (List Int)) : ∀ p, (toE L nx p).Pairwise edLt
 | 0 => by simp [toE]
 | p + 1 => by
  unfold toE
  refine List.pairwise_append.2 ⟨toE_srt L nx p, ?_, fun a ha b hb => ?_⟩
  ·unfold rowE
   rw [List.pairwise_map]
   exact List.Pairwise.imp (R := fun a b => a < b) (fun {a b} h => .inr ⟨rfl, .inl h⟩) List.pairwise_lt_range
  ·have h1 := ((toE_mem L nx a p).1 ha).1
   simp only [rowE, List.mem_map, List.mem_range] at hb
   obtain ⟨i, -, rfl⟩ := hb
   exact .inl h1
theorem toE_ok {L m s : Nat} {bs : List Bool} {nx : List (List Int)} (hD : DfL L m s bs nx) : EdOK L m (toE L nx m) :=
 ⟨fun e he => by
  obtain ⟨h1, h2, h3⟩ := (toE_mem L nx e m).1 he
  exact ⟨h1, h2, by rw [← h3]; exact (hD.rt.step h1 h2).1⟩, fun i h => List.pairwise_iff_getElem.1 (toE_srt L nx m) i (i + 1) (by omega) h (by omega)⟩
set_option maxRecDepth 100000 in
set_option maxHeartbeats 8000000 in
theorem toNFA_fn {L m s : Nat} {bs : List Bool} {nx : List (List Int)} (hD : DfL L m s bs nx) (hL : 1 ≤ L) (hL2 : L ≤ 6) (hm : m ≤ 63) : FnA Tryd.prog 74 [dfT 0 L s bs nx] (.tup [nfT 2 L m (2 ^ s) (finM m bs) (toE L nx m), .t 2 (.int .i64 0)]) := by
 have hbl := hD.bl
 have hnl := hD.nl
 have hs := hD.st
 have hsh := shl_bit (i := s) (by omega)
 have h64 : ¬ (64 : Int) < (m : Int) := by omega
 obtain ⟨st, hst⟩ : ∃ st, st = 2 ^ s := ⟨_, rfl⟩
 rw [← hst] at hsh ⊢
 refine fn_intro Tryd.func74 rfl (by simp [Tryd.f74]) ?_
 rw [show Tryd.f74.ntmps = 68 from rfl, show Tryd.f74.results = #[.cell 2 123, .tmp 3] from rfl]
 refine awp_seqR fun K hK => ?_
 simp (disch := omega) [ints, rows, scal, wr64, wr8, dfT, bools]
 (repeat' first | apply hK | apply And.intro) <;> try first | (show okH _ _ _ = true; kernel_rfl) | omega | rfl | (simp <;> omega)
 refine awp_seq ?_
 refine awp_seqR fun K hK => ?_
 simp (disch := omega) [ints, rows, scal, wr64, wr8]
 (repeat' apply And.intro)
 all_goals (try omega)
 refine call_rule (caps := []) (dvalidate_fn hD hL hL2 (by omega)) [] [] 2 rfl rfl rfl rfl (by kernel_rfl) (by simp) ?_ trivial trivial rfl trivial trivial (by simp) ?_
 ·simp [scal, rows, ints, dfT, bools]
 simp (disch := omega) [ints, rows, scal, wr64, wr8]
 (repeat' first | apply hK | apply And.intro) <;> try first | (show okH _ _ _ = true; kernel_rfl) | omega | rfl | (simp <;> omega)
 refine awp_seqR fun K hK => ?_
 simp (disch := omega) [ints, rows, scal, wr64, wr8]
 (repeat' first | apply hK | apply And.intro) <;> try first | (show okH _ _ _ = true; kernel_rfl) | omega | rfl | (simp <;> omega)
 refine awp_cond (b := false) (p := 2) (by simp [scal] <;> omega) ?_
 refine awp_skip ?_
 show awp _ _ _ _
 refine awp_seq ?_
 refine awp_seqR fun K hK => ?_
 simp (disch := omega) [ints, rows, scal, wr64, wr8, bools, hbl, h64]
 (repeat' first | apply hK | apply And.intro) <;> try first | (show okH _ _ _ = true; kernel_rfl) | omega | rfl | (simp <;> omega)
 refine awp_cond (b := false) (p := 2) (by simp [scal, h64] <;> omega) ?_
 refine awp_skip ?_
 show awp _ _ _ _
 refine awp_seqD (by kernel_rfl) (fun K hK => ?_)
 simp (disch := omega) [ints, rows, scal, wr64, wr8, bools, hbl, hsh]
 (repeat' first | apply hK | apply And.intro) <;> try first | (show chkD _ _ = true; kernel_rfl) | (show okH _ _ _ = true; kernel_rfl) | omega | rfl | (simp <;> omega)
 refine awp_seq ?_
 refine awp_seqR fun K hK => ?_
 simp (disch := omega) [ints, rows, scal, wr64, wr8]
 (repeat' first | apply hK | apply And.intro) <;> try first | (show okH _ _ _ = true; kernel_rfl) | omega | rfl | (simp <;> omega)
 refine awp_block ?_
 refine awp_loop (fun p : Nat => mkS [(1, .ptr 0 0 4), (2, .ptr 1 0 5), (5, .ptr 2 0 5), (31, .t 0 (rows nx)), (32, .t 2 (.int .i64 m)), (33, .t 2 (.int .i64 p))]
   [(0, dfO L s bs nx), (1, .box 123 [.any, .any, .any, .any, .any]), (2, .box 123 [.t 2 (.int .i64 L), .t 2 (.int .i64 m), .t 2 (.int .u64 (st : Nat)), .t 2 (.int .u64 (finM p bs : Nat)), .own 3 (p * L * 3)]), (3, .row 143 3 2 (edC (toE L nx p)))] 4 68 [.any]) (fun p => p ≤ m) (fun p => m - p) ?_ ?_
 ·refine ⟨0, by omega, ?_⟩
  refine wk_list [(0, some 0), (1, some 1000000), (2, some 21000000), (3, none)] rfl ?_ ?_ ?_ ?_
  all_goals try simp [ints, dfO, bools, rows, hnl, finM, mkM, toE, edC]
 intro p hp
 refine awp_seqR fun K hK => ?_
 simp (disch := omega) [ints, rows, scal, wr64, wr8]
 (repeat' first | apply hK | apply And.intro) <;> try first | (show okH _ _ _ = true; kernel_rfl) | omega | rfl | (simp <;> omega)
 refine awp_seq ?_
 by_cases hpl : p < m
 ·have hpx : p < nx.length := by omega
  have hpb : p < bs.length := by omega
  obtain ⟨hrl, -⟩ := hD.row nx[p] (by simp)
  have hpl2 : p * L * 3 ≤ 63 * 6 * 3 := Nat.mul_le_mul_right 3 (Nat.mul_le_mul (by omega) hL2)
  have hbg : bs.getD p false = bs[p] := by rw [List.getD_eq_getElem?_getD, List.getElem?_eq_getElem hpb]; rfl
  have hfl : finM p bs < 2 ^ 63 := Nat.lt_of_lt_of_le (mkM_lt _ _) (Nat.pow_le_pow_right (by omega) (by omega))
  have hms : finM (p + 1) bs = if bs[p] = true then finM p bs ||| 2 ^ p else finM p bs := by rw [← hbg]; rfl
  refine awp_cond (b := true) (p := 2) (by simp [scal, hpl] <;> omega) ?_
  refine awp_skip ?_
  show awp _ _ _ _
  refine awp_seq ?_
  refine awp_block ?_
  refine awp_seqR fun K hK => ?_
  simp (disch := omega) [ints, rows, scal, wr64, wr8, rows, hpx, hrl]
  (repeat' first | apply hK | apply And.intro) <;> try first | (show okH _ _ _ = true; kernel_rfl) | omega | rfl | (simp <;> omega)
  refine awp_join (fun σ' => Wk σ' (mkS [(1, .ptr 0 0 4), (2, .ptr 1 0 5), (5, .ptr 2 0 5), (6, .t 2 (.int .i64 p)), (7, .t 0 (ints nx[p])), (31, .t 0 (rows nx)), (32, .t 2 (.int .i64 m)), (33, .t 2 (.int .i64 p))]
   [(0, dfO L s bs nx), (1, .box 123 [.any, .any, .any, .any, .any]), (2, .box 123 [.t 2 (.int .i64 L), .t 2 (.int .i64 m), .t 2 (.int .u64 (st : Nat)), .t 2 (.int .u64 (finM (p + 1) bs : Nat)), .own 3 (p * L * 3)]), (3, .row 143 3 2 (edC (toE L nx p)))] 4 68 [.any])) ?_ ?_
  ·intro σ' hw
   refine awp_weak hw ?_
   clear hw
   refine awp_seqR fun K hK => ?_
   simp (disch := omega) [ints, rows, scal, wr64, wr8]
   (repeat' first | apply hK | apply And.intro) <;> try first | (show okH _ _ _ = true; kernel_rfl) | omega | rfl | (simp <;> omega)
   refine awp_block ?_
   refine awp_loop (fun x : Nat => mkS [(1, .ptr 0 0 4), (2, .ptr 1 0 5), (5, .ptr 2 0 5), (6, .t 2 (.int .i64 p)), (31, .t 0 (rows nx)), (32, .t 2 (.int .i64 m)), (33, .t 2 (.int .i64 p)), (49, .t 0 (ints nx[p])), (50, .t 2 (.int .i64 L)), (51, .t 2 (.int .i64 x))]
    [(0, dfO L s bs nx), (1, .box 123 [.any, .any, .any, .any, .any]), (2, .box 123 [.t 2 (.int .i64 L), .t 2 (.int .i64 m), .t 2 (.int .u64 (st : Nat)), .t 2 (.int .u64 (finM (p + 1) bs : Nat)), .own 3 ((p * L + x) * 3)]), (3, .row 143 3 2 (edC (toE L nx p ++ rowE nx p x)))] 4 68 [.any]) (fun x => x ≤ L) (fun x => L - x) ?_ ?_
   ·refine ⟨0, by omega, ?_⟩
    refine wk_list [(0, some 0), (1, some 1), (2, some 2), (3, some 3)] rfl ?_ ?_ ?_ ?_
    all_goals try simp [ints, dfO, bools, rows, hrl, rowE]
   intro x hx
   refine awp_seqR fun K hK => ?_
   simp (disch := omega) [ints, rows, scal, wr64, wr8]
   (repeat' first | apply hK | apply And.intro) <;> try first | (show okH _ _ _ = true; kernel_rfl) | omega | rfl | (simp <;> omega)
   refine awp_seq ?_
   by_cases hxl : x < L
   ·obtain ⟨s1, s2, s3, s4⟩ := hD.rt.step hpl hxl
    have hel : (edC (toE L nx p ++ rowE nx p x)).length = (p * L + x) * 3 := by simp
    refine awp_cond (b := true) (p := 2) (by simp [scal, hxl] <;> omega) ?_
    refine awp_skip ?_
    show awp _ _ _ _
    refine awp_seq ?_
    refine awp_block ?_
    refine awp_seqR fun K hK => ?_
    simp (disch := omega) [ints, rows, scal, wr64, wr8, s3, s4]
    (repeat' first | apply hK | apply And.intro) <;> try first | (show okH _ _ _ = true; kernel_rfl) | omega | rfl | (simp <;> omega)
    refine awp_R fun K hK => ?_
    simp (disch := omega) [ints, rows, scal, wr64, wr8, hel]
    (repeat' first | apply hK | apply And.intro) <;> try first | (show okH _ _ _ = true; kernel_rfl) | omega | rfl | (simp <;> omega)
    show awp _ _ _ _
    refine awp_R fun K hK => ?_
    simp (disch := omega) [ints, rows, scal, wr64, wr8]
    (repeat' first | apply hK | apply And.intro) <;> try first | (show okH _ _ _ = true; kernel_rfl) | omega | rfl | (simp <;> omega)
    refine ⟨x + 1, by omega, by omega, ?_⟩
    refine wk_list [(0, some 0), (1, some 1), (2, some 2), (3, some 3)] rfl ?_ ?_ ?_ ?_
    all_goals try simp [ints, dfO, bools, rows, rowE_succ, edC_snoc, ← List.append_assoc]
    omega
   ·obtain rfl : x = L := by omega
    refine awp_cond (b := false) (p := 2) (by simp [scal] <;> omega) ?_
    refine awp_exit ?_
    show awp _ _ _ _
    refine awp_R fun K hK => ?_
    simp (disch := omega) [ints, rows, scal, wr64, wr8]
    (repeat' first | apply hK | apply And.intro) <;> try first | (show okH _ _ _ = true; kernel_rfl) | omega | rfl | (simp <;> omega)
    refine ⟨p + 1, by omega, by omega, ?_⟩
    refine wk_list [(0, some 0), (1, some 1), (2, some 2), (3, some 3)] rfl ?_ ?_ ?_ ?_
    all_goals try simp [ints, dfO, bools, rows, toE, Nat.add_mul]
  ·refine awp_seqR fun K hK => ?_
   simp (disch := omega) [ints, rows, scal, wr64, wr8, dfO, bools, hpb]
   (repeat' first | apply hK | apply And.intro) <;> try first | (show okH _ _ _ = true; kernel_rfl) | omega | rfl | (simp <;> omega)
   cases hb : bs[p] with
   | true =>
    rw [hb, if_pos rfl] at hms
    have hsh2 := shl_bit (i := p) (by omega)
    have hb2 := bit_lt (i := p) (by omega)
    have hor := orN (x := finM p bs) (y := 2 ^ p) (by omega) hb2
    rw [← hms] at hor
    generalize 2 ^ p = d at hsh2 hor
    refine awp_cond (b := true) (p := 2) (by simp [scal, hb] <;> omega) ?_
    refine awp_RD (by kernel_rfl) (fun K hK => ?_)
    simp (disch := omega) [ints, rows, scal, wr64, wr8, hsh2, hor]
    (repeat' first | apply hK | apply And.intro) <;> try first | (show chkD _ _ = true; kernel_rfl) | (show okH _ _ _ = true; kernel_rfl) | omega | rfl | (simp <;> omega)
    refine wk_list [(0, some 0), (1, some 1), (2, some 2), (3, some 3)] rfl ?_ ?_ ?_ ?_
    all_goals try simp [ints, dfO, bools, rows]
   | false =>
    rw [hb, if_neg (by simp)] at hms
    refine awp_cond (b := false) (p := 2) (by simp [scal, hb] <;> omega) ?_
    refine awp_skip ?_
    refine wk_list [(0, some 0), (1, some 1), (2, some 2), (3, some 3)] rfl ?_ ?_ ?_ ?_
    all_goals try simp [ints, dfO, bools, rows, hms]
 ·obtain rfl : p = m := by omega
  refine awp_cond (b := false) (p := 2) (by simp [scal] <;> omega) ?_
  refine awp_exit ?_
  show awp _ _ _ _
  refine awp_seqR fun K hK => ?_
  simp (disch := omega) [ints, rows, scal, wr64, wr8]
  (repeat' first | apply hK | apply And.intro) <;> try first | (show okH _ _ _ = true; kernel_rfl) | omega | rfl | (simp <;> omega)
  refine awp_ret ?_
  refine ⟨⟨.inr rfl, _, [], (by simp; rfl), trivial, trivial, by simp [nfT, dfT], ?_⟩, by simp [nfT, dfT]⟩
  simp [ints, rows, nfT, dfT]

attribute [local simp] KL_ap KD_ap awpL_nil awpL_cons awpD_nil awpD_cons awpOp awpOpD wrE gd aop aBuiltin aNil aMin ASt.eval AV.ofV dstOk ASt.app Eff.heap dels upd_b aLoad aStore aField aFieldV aIndexAddr aIndex aSlice aSliceO aLen aBin iB sB aUn aConv aAlloc aBox aBuild afill avCells AV.leaf setR aBuildSlice frz frzL isOwn vecOf tsOf aMake srcOf aAppend aMkMap aMapUpd aLookup oint cut putL AObj.cnt mkS envOf_nil envOf_cons heapOf_nil heapOf_cons argS Nat.blt_eq callS outV outVs outO heap2 addL delL List.getElem?_cons_zero okO inPs inP wkE wkP wkPs wkH wkO keysNd unm mpOf_nil mpOf_cons ghA ghA1 ndL inOs inO resV
set_option linter.unusedSimpArgs false

def turnE (e : Ed) : Ed := (e.2.2, e.2.1, e.1)
def turnK (es : List Ed) (k : Nat) : List Ed := (es.take k).map turnE
theorem turnK_succ {es : List Ed} {k : Nat} (h : k < es.length) : turnK es (k + 1) = turnK es k ++ [turnE es[k]] := by
 unfold turnK
 rw [List.take_succ_eq_append_getElem h, List.map_append]
 rfl
theorem turnK_len {es : List Ed} {k : Nat} (h : k ≤ es.length) : (turnK es k).length = k := by simp [turnK]; omega
theorem turnK_zero (es : List Ed) : turnK es 0 = [] := by simp [turnK]
theorem turnK_all (es : List Ed) : turnK es es.length = es.map turnE := by simp [turnK]
set_option maxRecDepth 100000 in
set_option maxHeartbeats 8000000 in
theorem nreverse_fn {L m st fi : Nat} {es : List Ed} (hE : EdOK L m es) (hL : 1 ≤ L) (hL2 : L ≤ 6) (hm : m ≤ 63) (hs : st < 2 ^ m) (hf : fi < 2 ^ m) (h0 : 0 < es.length) (hl : es.length ≤ 400) : FnA Tryd.prog 76 [nfT 0 L m st fi es] (nfT 2 L m fi st (srtE (es.map turnE))) := by
 have hsort := sortE_fn (es := es.map turnE) (by simpa using h0) (by simp; omega)
 rw [List.length_map] at hsort
 refine fn_intro Tryd.func76 rfl (by simp [Tryd.f76]) ?_
 rw [show Tryd.f76.ntmps = 43 from rfl, show Tryd.f76.results = #[.cell 2 123] from rfl]
 refine awp_seqR fun K hK => ?_
 simp (disch := omega) [ints, rows, scal, wr64, wr8, nfT]
 (repeat' first | apply hK | apply And.intro) <;> try first | (show okH _ _ _ = true; kernel_rfl) | omega | rfl | (simp <;> omega)
 refine awp_seq ?_
 refine awp_seqR fun K hK => ?_
 simp (disch := omega) [ints, rows, scal, wr64, wr8]
 (repeat' apply And.intro)
 all_goals (try omega)
 refine call_rule (caps := []) (nvalidate_fn hE hL hL2 hm hs hf (by omega)) [] [] 2 rfl rfl rfl rfl (by kernel_rfl) (by simp) ?_ trivial trivial rfl trivial trivial (by simp) ?_
 ·simp [scal, rows, ints, nfT]
 simp (disch := omega) [ints, rows, scal, wr64, wr8]
 (repeat' first | apply hK | apply And.intro) <;> try first | (show okH _ _ _ = true; kernel_rfl) | omega | rfl | (simp <;> omega)
 refine awp_cond (b := false) (p := 2) (by simp [scal] <;> omega) ?_
 refine awp_skip ?_
 show awp _ _ _ _
 refine awp_seqR fun K hK => ?_
 simp (disch := omega) [ints, rows, scal, wr64, wr8]
 (repeat' first | apply hK | apply And.intro) <;> try first | (show okH _ _ _ = true; kernel_rfl) | omega | rfl | (simp <;> omega)
 refine awp_seq ?_
 refine awp_seqR fun K hK => ?_
 simp (disch := omega) [ints, rows, scal, wr64, wr8]
 (repeat' first | apply hK | apply And.intro) <;> try first | (show okH _ _ _ = true; kernel_rfl) | omega | rfl | (simp <;> omega)
 refine awp_block ?_
 refine awp_loop (fun k : Nat => mkS [(2, .ptr 1 0 5), (3, .ptr 2 0 5), (20, .t 0 (.sl 3 (edC es))), (21, .t 2 (.int .i64 es.length)), (22, .t 2 (.int .i64 k))]
   [(1, .box 123 [.any, .any, .any, .any, .any]), (2, .box 123 [.t 2 (.int .i64 L), .t 2 (.int .i64 m), .t 2 (.int .u64 (fi : Nat)), .t 2 (.int .u64 (st : Nat)), .own 3 (k * 3)]), (3, .row 143 3 2 (edC (turnK es k)))] 4 43 [.any]) (fun k => k ≤ es.length) (fun k => es.length - k) ?_ ?_
 ·refine ⟨0, by omega, ?_⟩
  refine wk_list [(1, some 1000000), (2, some 14000000), (3, none)] rfl ?_ ?_ ?_ ?_
  all_goals try simp [ints, edC, turnK_zero]
 intro k hk
 refine awp_seqR fun K hK => ?_
 simp (disch := omega) [ints, rows, scal, wr64, wr8]
 (repeat' first | apply hK | apply And.intro) <;> try first | (show okH _ _ _ = true; kernel_rfl) | omega | rfl | (simp <;> omega)
 refine awp_seq ?_
 by_cases hkl : k < es.length
 ·have hat := ed_at hkl
  have hin := ed_in hkl
  have htk := turnK_succ hkl
  have hel : (turnK es k).length = k := turnK_len (by omega)
  refine awp_cond (b := true) (p := 2) (by simp [scal, hkl] <;> omega) ?_
  refine awp_skip ?_
  show awp _ _ _ _
  refine awp_seq ?_
  refine awp_block ?_
  refine awp_seqR fun K hK => ?_
  simp (disch := omega) [ints, rows, scal, wr64, wr8, hat, hin]
  (repeat' first | apply hK | apply And.intro) <;> try first | (show okH _ _ _ = true; kernel_rfl) | omega | rfl | (simp <;> omega)
  refine awp_R fun K hK => ?_
  simp (disch := omega) [ints, rows, scal, wr64, wr8, hel]
  (repeat' first | apply hK | apply And.intro) <;> try first | (show okH _ _ _ = true; kernel_rfl) | omega | rfl | (simp <;> omega)
  show awp _ _ _ _
  refine awp_R fun K hK => ?_
  simp (disch := omega) [ints, rows, scal, wr64, wr8]
  (repeat' first | apply hK | apply And.intro) <;> try first | (show okH _ _ _ = true; kernel_rfl) | omega | rfl | (simp <;> omega)
  refine ⟨k + 1, by omega, by omega, ?_⟩
  refine wk_list [(1, some 1), (2, some 2), (3, some 3)] rfl ?_ ?_ ?_ ?_
  all_goals try simp [ints, htk, edC_snoc, turnE, Nat.add_mul, hel]
 ·obtain rfl : k = es.length := by omega
  refine awp_cond (b := false) (p := 2) (by simp [scal] <;> omega) ?_
  refine awp_exit ?_
  show awp _ _ _ _
  rw [turnK_all]
  refine awp_seqR fun K hK => ?_
  simp (disch := omega) [ints, rows, scal, wr64, wr8]
  (repeat' apply And.intro)
  all_goals (try omega)
  refine call_ruleK (caps := []) (hsort) [3] [3] 2 rfl rfl rfl rfl (by kernel_rfl) (by simp) ?_ ?_ (by simp) rfl (by simp) ⟨.inr (.inr ⟨rfl, by simp, by simp⟩), trivial⟩ (by simp) ?_
  ·simp [scal, rows, ints]
  ·simp [scal, rows, ints]
  simp (disch := omega) [ints, rows, scal, wr64, wr8]
  (repeat' first | apply hK | apply And.intro) <;> try first | (show okH _ _ _ = true; kernel_rfl) | omega | rfl | (simp <;> omega)
  refine awp_seqR fun K hK => ?_
  simp (disch := omega) [ints, rows, scal, wr64, wr8]
  (repeat' first | apply hK | apply And.intro) <;> try first | (show okH _ _ _ = true; kernel_rfl) | omega | rfl | (simp <;> omega)
  refine awp_ret ?_
  refine ⟨⟨.inr rfl, _, [], (by simp; rfl), trivial, trivial, by simp [nfT], ?_⟩, by simp [nfT]⟩
  simp [ints, rows, nfT]

attribute [local simp] KL_ap KD_ap awpL_nil awpL_cons awpD_nil awpD_cons awpOp awpOpD wrE gd aop aBuiltin aNil aMin ASt.eval AV.ofV dstOk ASt.app Eff.heap dels upd_b aLoad aStore aField aFieldV aIndexAddr aIndex aSlice aSliceO aLen aBin iB sB aUn aConv aAlloc aBox aBuild afill avCells AV.leaf setR aBuildSlice frz frzL isOwn vecOf tsOf aMake srcOf aAppend aMkMap aMapUpd aLookup oint cut putL AObj.cnt mkS envOf_nil envOf_cons heapOf_nil heapOf_cons argS Nat.blt_eq callS outV outVs outO heap2 addL delL List.getElem?_cons_zero okO inPs inP ndL inOs inO resV ghA ghA1 wkPs wkP unm
set_option linter.unusedSimpArgs false

def revE (L m : Nat) (nx : List (List Int)) : List Ed := srtE ((toE L nx m).map turnE)
theorem revE_ok {L m s : Nat} {bs : List Bool} {nx : List (List Int)} (hD : DfL L m s bs nx) (hL2 : L ≤ 6) (hm : m ≤ 63) : RevE L m nx (revE L m nx) ∧ EdOK L m (revE L m nx) ∧ (revE L m nx).length = m * L := by
 have hmem : ∀ e : Ed, e ∈ revE L m nx ↔ e.1 < m ∧ e.2.1 < L ∧ e.2.2 < m ∧ stepR nx e.2.2 e.2.1 = e.1 := fun e => by
  obtain ⟨a, b, c⟩ := e
  unfold revE
  rw [srtE_mem, List.mem_map]
  constructor
  ·rintro ⟨⟨x, y, z⟩, h, e⟩
   simp only [turnE, Prod.mk.injEq] at e
   obtain ⟨rfl, rfl, rfl⟩ := e
   obtain ⟨h1, h2, h3⟩ := (toE_mem L nx _ m).1 h
   simp only at h1 h2 h3 ⊢
   exact ⟨by rw [← h3]; exact (hD.rt.step h1 h2).1, h2, h1, h3⟩
  ·rintro ⟨h1, h2, h3, h4⟩
   exact ⟨(c, b, a), (toE_mem L nx _ m).2 ⟨h3, h2, h4⟩, rfl⟩
 have hlen : (revE L m nx).length = m * L := by simp [revE]
 have hle : m * L ≤ 63 * 6 := Nat.mul_le_mul hm hL2
 refine ⟨⟨hmem, by omega⟩, ⟨fun e he => ⟨((hmem e).1 he).1, ((hmem e).1 he).2.1, ((hmem e).1 he).2.2.1⟩, srtE_srt ?_⟩, hlen⟩
 have hp := toE_srt L nx m
 rw [List.Nodup, List.pairwise_map]
 refine List.Pairwise.imp (R := edLt) (S := fun a b => turnE a ≠ turnE b) (fun {a b} h e => edLt_ne h ?_) hp
 obtain ⟨a1, a2, a3⟩ := a
 obtain ⟨b1, b2, b3⟩ := b
 simp only [turnE, Prod.mk.injEq] at e
 rw [e.1, e.2.1, e.2.2]
set_option maxRecDepth 100000 in
set_option maxHeartbeats 8000000 in
theorem subset_fn {L m s st : Nat} {bs : List Bool} {nx : List (List Int)} (hD : DfL L m s bs nx) (hL : 1 ≤ L) (hL2 : L ≤ 6) (hm : m ≤ 9) (hs : st < 2 ^ m) : ∃ res, (∃ ss bs' nx', ExI L (2 ^ m) st (powB m) (powN L m nx) ss bs' nx' ss.length ∧ FO L (powN L m nx) ss (ss.length * L) ∧ res = .tup [dfT 2 L 0 bs' nx', .t 2 (.sl 1 (u64T ss)), .t 2 (.int .i64 0)]) ∧ FnS Tryd.prog 92 [nfT 0 L m st 1 (revE L m nx)] [] res [] := by
 obtain ⟨hR, hE, hlen⟩ := revE_ok hD hL2 (by omega)
 have hle : m * L ≤ 9 * 6 := Nat.mul_le_mul hm hL2
 have h1m : 1 < 2 ^ m := Nat.one_lt_two_pow (by have := hD.n1; omega)
 have hv := nvalidate_fn hE hL hL2 (by omega) hs h1m (by omega)
 have hst := steps_fn (st := st) (fi := 1) hD hL hL2 (by omega) hR
 obtain ⟨_, ⟨ss, bs', nx', hX, hF, rfl⟩, hex⟩ := exploreU_fn (st := st) (ed := .sl 3 (edC (revE L m nx))) hD hL hL2 hm hs
 refine fn_introE Tryd.func92 rfl (by simp [Tryd.f92]) ?_
 rw [show Tryd.f92.ntmps = 23 from rfl, show Tryd.f92.results = #[.cell 2 32, .tmp 3, .tmp 4] from rfl]
 refine awp_seqR fun K hK => ?_
 simp (disch := omega) [ints, rows, scal, wr64, wr8, nfT]
 (repeat' first | apply hK | apply And.intro) <;> try first | (show okH _ _ _ = true; kernel_rfl) | omega | rfl | (simp <;> omega)
 refine awp_seq ?_
 refine awp_seqR fun K hK => ?_
 simp (disch := omega) [ints, rows, scal, wr64, wr8]
 (repeat' apply And.intro)
 all_goals (try omega)
 refine call_rule (caps := []) (hv) [] [] 2 rfl rfl rfl rfl (by kernel_rfl) (by simp) ?_ trivial trivial rfl trivial trivial (by simp) ?_
 ·simp [scal, rows, ints, nfT]
 simp (disch := omega) [ints, rows, scal, wr64, wr8]
 (repeat' first | apply hK | apply And.intro) <;> try first | (show okH _ _ _ = true; kernel_rfl) | omega | rfl | (simp <;> omega)
 refine awp_seqR fun K hK => ?_
 simp (disch := omega) [ints, rows, scal, wr64, wr8]
 (repeat' first | apply hK | apply And.intro) <;> try first | (show okH _ _ _ = true; kernel_rfl) | omega | rfl | (simp <;> omega)
 refine awp_cond (b := false) (p := 2) (by simp [scal] <;> omega) ?_
 refine awp_skip ?_
 show awp _ _ _ _
 refine awp_seqD (by kernel_rfl) (fun K hK => ?_)
 simp (disch := omega) [ints, rows, scal, wr64, wr8]
 (repeat' apply And.intro)
 all_goals (try omega)
 refine call_ruleD (caps := []) (hst) [] [14000000] 2 rfl rfl rfl rfl (by kernel_rfl) (by simp) ?_ ?_ (by simp) rfl (by simp) ⟨.inl ⟨by omega, by omega⟩, trivial⟩ (by simp [nfT]) ?_
 ·simp [scal, rows, ints, nfT]
 ·trivial
 simp (disch := omega) [ints, rows, scal, wr64, wr8]
 (repeat' apply And.intro)
 all_goals (try omega)
 refine call_ruleD (caps := []) (hex) [] [] 2 rfl rfl rfl rfl (by kernel_rfl) (by simp) ?_ trivial trivial rfl trivial trivial (by simp) ?_
 ·simp [scal, rows, ints, nfC, nextT]
 simp (disch := omega) [ints, rows, scal, wr64, wr8]
 (repeat' first | apply hK | apply And.intro) <;> try first | (show chkD _ _ = true; kernel_rfl) | (show okH _ _ _ = true; kernel_rfl) | omega | rfl | (simp <;> omega)
 refine awp_ret ?_
 refine ⟨_, ⟨ss, bs', nx', hX, hF, rfl⟩, ?_⟩
 refine ⟨⟨.inr rfl, _, [], (by simp; rfl), trivial, trivial, by simp [nfT, dfT, bools], ?_⟩, by simp [nfT, dfT, bools]⟩
 simp [ints, rows, nfT, dfT, bools]
def RvX (L m : Nat) (bs : List Bool) (nx : List (List Int)) (m2 : Nat) (b2 : List Bool) (nx2 : List (List Int)) : Prop := MnD L m2 b2 nx2 ∧ m2 ≤ 512 ∧ ∀ w, (∀ a ∈ w, a < L) → accR b2 nx2 0 w = accR bs nx 0 w.reverse
set_option maxRecDepth 100000 in
set_option maxHeartbeats 8000000 in
theorem language_fn {L m : Nat} {bs : List Bool} {nx : List (List Int)} (hD : DfL L m 0 bs nx) (hL : 1 ≤ L) (hL2 : L ≤ 6) (hm : m ≤ 9) : ∃ res, (∃ m2 b2 nx2, RvX L m bs nx m2 b2 nx2 ∧ res = .tup [dfT 2 L 0 b2 nx2, .t 2 (.int .i64 0)]) ∧ FnS Tryd.prog 75 [nfT 0 L m (finM m bs) 1 (revE L m nx)] [] res [] := by
 have hfm : finM m bs < 2 ^ m := mkM_lt _ _
 obtain ⟨_, ⟨ss, bs', nx', hX, hF, rfl⟩, hsub⟩ := subset_fn hD hL hL2 hm hfm
 obtain ⟨hX1, hX2⟩ := hX.fin
 have hn : ss.length ≤ 512 := Nat.le_trans hX.len (Nat.le_trans (Nat.pow_le_pow_right (by omega) hm) (by decide))
 obtain ⟨_, ⟨m2, b2, nx2, hM, rfl⟩, hmin⟩ := mzMinimal_fn hX1 hL hL2 hn
 have hRv : RvX L m bs nx m2 b2 nx2 := ⟨hM.mn, Nat.le_trans hM.le hn, fun w hw => by rw [hM.lang w hw, hX2 w hw, pow_rev hD hw]⟩
 refine fn_introE Tryd.func75 rfl (by simp [Tryd.f75]) ?_
 rw [show Tryd.f75.ntmps = 19 from rfl, show Tryd.f75.results = #[.cell 2 32, .tmp 3] from rfl]
 refine awp_seqR fun K hK => ?_
 simp (disch := omega) [ints, rows, scal, wr64, wr8, nfT]
 (repeat' first | apply hK | apply And.intro) <;> try first | (show okH _ _ _ = true; kernel_rfl) | omega | rfl | (simp <;> omega)
 refine awp_seqR fun K hK => ?_
 simp (disch := omega) [ints, rows, scal, wr64, wr8]
 (repeat' apply And.intro)
 all_goals (try omega)
 refine call_rule (caps := []) (hsub) [] [] 2 rfl rfl rfl rfl (by kernel_rfl) (by simp) ?_ trivial trivial rfl trivial trivial (by simp) ?_
 ·simp [scal, rows, ints, nfT]
 simp (disch := omega) [ints, rows, scal, wr64, wr8, dfT, bools]
 (repeat' first | apply hK | apply And.intro) <;> try first | (show okH _ _ _ = true; kernel_rfl) | omega | rfl | (simp <;> omega)
 refine awp_seq ?_
 refine awp_seqR fun K hK => ?_
 simp (disch := omega) [ints, rows, scal, wr64, wr8]
 (repeat' first | apply hK | apply And.intro) <;> try first | (show okH _ _ _ = true; kernel_rfl) | omega | rfl | (simp <;> omega)
 refine awp_cond (b := false) (p := 2) (by simp [scal] <;> omega) ?_
 refine awp_skip ?_
 show awp _ _ _ _
 refine awp_seqR fun K hK => ?_
 simp (disch := omega) [ints, rows, scal, wr64, wr8]
 (repeat' apply And.intro)
 all_goals (try omega)
 refine call_rule (caps := []) (hmin) [] [] 2 rfl rfl rfl rfl (by kernel_rfl) (by simp) ?_ trivial trivial rfl trivial trivial (by simp) ?_
 ·simp [scal, rows, ints, dfT, bools]
 simp (disch := omega) [ints, rows, scal, wr64, wr8, dfT, bools]
 (repeat' first | apply hK | apply And.intro) <;> try first | (show okH _ _ _ = true; kernel_rfl) | omega | rfl | (simp <;> omega)
 refine awp_ret ?_
 refine ⟨_, ⟨m2, b2, nx2, hRv, rfl⟩, ?_⟩
 refine ⟨⟨.inr rfl, _, [], (by simp; rfl), trivial, trivial, by simp [nfT, dfT, bools], ?_⟩, by simp [nfT, dfT, bools]⟩
 simp [ints, rows, nfT, dfT, bools]
set_option maxRecDepth 100000 in
set_option maxHeartbeats 8000000 in
theorem lminimal_fn {L n s : Nat} {bs : List Bool} {nxt : List (List Int)} (h : DfL L n s bs nxt) (hL : 1 ≤ L) (hL2 : L ≤ 6) (hn : n ≤ 512) : ∃ res, (∃ m b2 nx, MiX L n s bs nxt m b2 nx ∧ res = .tup [dfT 2 L 0 b2 nx, .t 2 (.int .i64 0)]) ∧ FnS Tryd.prog 73 [dfT 0 L s bs nxt] [] res [] := by
 obtain ⟨_, ⟨m, b2, nx, hX, rfl⟩, hmin⟩ := mzMinimal_fn h hL hL2 hn
 refine fn_introE Tryd.func73 rfl (by simp [Tryd.f73]) ?_
 rw [show Tryd.f73.ntmps = 13 from rfl, show Tryd.f73.results = #[.cell 2 32, .tmp 3] from rfl]
 refine awp_seqR fun K hK => ?_
 simp (disch := omega) [ints, rows, scal, wr64, wr8, dfT, bools]
 (repeat' first | apply hK | apply And.intro) <;> try first | (show okH _ _ _ = true; kernel_rfl) | omega | rfl | (simp <;> omega)
 refine awp_seq ?_
 refine awp_seqR fun K hK => ?_
 simp (disch := omega) [ints, rows, scal, wr64, wr8]
 (repeat' apply And.intro)
 all_goals (try omega)
 refine call_rule (caps := []) (dvalidate_fn h hL hL2 hn) [] [] 2 rfl rfl rfl rfl (by kernel_rfl) (by simp) ?_ trivial trivial rfl trivial trivial (by simp) ?_
 ·simp [scal, rows, ints, dfT, bools]
 simp (disch := omega) [ints, rows, scal, wr64, wr8]
 (repeat' first | apply hK | apply And.intro) <;> try first | (show okH _ _ _ = true; kernel_rfl) | omega | rfl | (simp <;> omega)
 refine awp_seqR fun K hK => ?_
 simp (disch := omega) [ints, rows, scal, wr64, wr8]
 (repeat' first | apply hK | apply And.intro) <;> try first | (show okH _ _ _ = true; kernel_rfl) | omega | rfl | (simp <;> omega)
 refine awp_cond (b := false) (p := 2) (by simp [scal] <;> omega) ?_
 refine awp_skip ?_
 show awp _ _ _ _
 refine awp_seqR fun K hK => ?_
 simp (disch := omega) [ints, rows, scal, wr64, wr8]
 (repeat' apply And.intro)
 all_goals (try omega)
 refine call_rule (caps := []) (hmin) [] [] 2 rfl rfl rfl rfl (by kernel_rfl) (by simp) ?_ trivial trivial rfl trivial trivial (by simp) ?_
 ·simp [scal, rows, ints, dfT, bools]
 simp (disch := omega) [ints, rows, scal, wr64, wr8, dfT, bools]
 (repeat' first | apply hK | apply And.intro) <;> try first | (show okH _ _ _ = true; kernel_rfl) | omega | rfl | (simp <;> omega)
 refine awp_ret ?_
 refine ⟨_, ⟨m, b2, nx, hX, rfl⟩, ?_⟩
 refine ⟨⟨.inr rfl, _, [], (by simp; rfl), trivial, trivial, by simp [dfT, bools], ?_⟩, by simp [dfT, bools]⟩
 simp [ints, rows, dfT, bools]
set_option maxRecDepth 100000 in
set_option maxHeartbeats 8000000 in
theorem lreverse_fn {L n s : Nat} {bs : List Bool} {nxt : List (List Int)} (h : DfL L n s bs nxt) (hL : 1 ≤ L) (hL2 : L ≤ 6) (hn : n ≤ 9) : ∃ res, (∃ m b1 nx m2 b2 nx2, MiX L n s bs nxt m b1 nx ∧ RvX L m b1 nx m2 b2 nx2 ∧ res = .tup [dfT 2 L 0 b2 nx2, .t 2 (.int .i64 0)]) ∧ FnS Tryd.prog 51 [dfT 0 L s bs nxt] [] res [] := by
 obtain ⟨_, ⟨m, b1, nx, hX, rfl⟩, hmin⟩ := lminimal_fn h hL hL2 (by omega)
 have hD := hX.mn.df
 have hm : m ≤ 9 := Nat.le_trans hX.le hn
 have hm1 := hD.n1
 have hmL : 1 * 1 ≤ m * L := Nat.mul_le_mul hm1 hL
 have hmL2 : m * L ≤ 9 * 6 := Nat.mul_le_mul hm hL2
 have hto := toNFA_fn hD hL hL2 (by omega)
 have hrv := nreverse_fn (toE_ok hD) hL hL2 (by omega) (st := 2 ^ 0) (fi := finM m b1) (Nat.pow_lt_pow_right (by omega) (by omega)) (mkM_lt _ _) (by simp; omega) (by simp; omega)
 have hrv : FnA Tryd.prog 76 [nfT 0 L m 1 (finM m b1) (toE L nx m)] (nfT 2 L m (finM m b1) 1 (revE L m nx)) := hrv
 have hto : FnA Tryd.prog 74 [dfT 0 L 0 b1 nx] (.tup [nfT 2 L m 1 (finM m b1) (toE L nx m), .t 2 (.int .i64 0)]) := hto
 obtain ⟨_, ⟨m2, b2, nx2, hR, rfl⟩, hlg⟩ := language_fn hD hL hL2 hm
 refine fn_introE Tryd.func51 rfl (by simp [Tryd.f51]) ?_
 rw [show Tryd.f51.ntmps = 30 from rfl, show Tryd.f51.results = #[.cell 2 32, .tmp 3] from rfl]
 refine awp_seqR fun K hK => ?_
 simp (disch := omega) [ints, rows, scal, wr64, wr8, dfT, bools]
 (repeat' first | apply hK | apply And.intro) <;> try first | (show okH _ _ _ = true; kernel_rfl) | omega | rfl | (simp <;> omega)
 refine awp_seqR fun K hK => ?_
 simp (disch := omega) [ints, rows, scal, wr64, wr8]
 (repeat' apply And.intro)
 all_goals (try omega)
 refine call_rule (caps := []) (hmin) [] [] 2 rfl rfl rfl rfl (by kernel_rfl) (by simp) ?_ trivial trivial rfl trivial trivial (by simp) ?_
 ·simp [scal, rows, ints, dfT, bools]
 simp (disch := omega) [ints, rows, scal, wr64, wr8, dfT, bools]
 (repeat' first | apply hK | apply And.intro) <;> try first | (show okH _ _ _ = true; kernel_rfl) | omega | rfl | (simp <;> omega)
 refine awp_seq ?_
 refine awp_seqR fun K hK => ?_
 simp (disch := omega) [ints, rows, scal, wr64, wr8]
 (repeat' first | apply hK | apply And.intro) <;> try first | (show okH _ _ _ = true; kernel_rfl) | omega | rfl | (simp <;> omega)
 refine awp_cond (b := false) (p := 2) (by simp [scal] <;> omega) ?_
 refine awp_skip ?_
 show awp _ _ _ _
 refine awp_seqR fun K hK => ?_
 simp (disch := omega) [ints, rows, scal, wr64, wr8]
 (repeat' apply And.intro)
 all_goals (try omega)
 refine call_rule (caps := []) (hto) [] [] 2 rfl rfl rfl rfl (by kernel_rfl) (by simp) ?_ trivial trivial rfl trivial trivial (by simp) ?_
 ·simp [scal, rows, ints, dfT, bools]
 simp (disch := omega) [ints, rows, scal, wr64, wr8, nfT]
 (repeat' first | apply hK | apply And.intro) <;> try first | (show okH _ _ _ = true; kernel_rfl) | omega | rfl | (simp <;> omega)
 refine awp_seq ?_
 refine awp_seqR fun K hK => ?_
 simp (disch := omega) [ints, rows, scal, wr64, wr8]
 (repeat' first | apply hK | apply And.intro) <;> try first | (show okH _ _ _ = true; kernel_rfl) | omega | rfl | (simp <;> omega)
 refine awp_cond (b := false) (p := 2) (by simp [scal] <;> omega) ?_
 refine awp_skip ?_
 show awp _ _ _ _
 refine awp_seqR fun K hK => ?_
 simp (disch := omega) [ints, rows, scal, wr64, wr8]
 (repeat' apply And.intro)
 all_goals (try omega)
 refine call_rule (caps := []) (hrv) [] [] 2 rfl rfl rfl rfl (by kernel_rfl) (by simp) ?_ trivial trivial rfl trivial trivial (by simp) ?_
 ·simp [scal, rows, ints, nfT]
 simp (disch := omega) [ints, rows, scal, wr64, wr8, nfT]
 (repeat' apply And.intro)
 all_goals (try omega)
 refine call_rule (caps := []) (hlg) [] [] 2 rfl rfl rfl rfl (by kernel_rfl) (by simp) ?_ trivial trivial rfl trivial trivial (by simp) ?_
 ·simp [scal, rows, ints, nfT]
 simp (disch := omega) [ints, rows, scal, wr64, wr8, dfT, bools]
 (repeat' first | apply hK | apply And.intro) <;> try first | (show okH _ _ _ = true; kernel_rfl) | omega | rfl | (simp <;> omega)
 refine awp_ret ?_
 refine ⟨_, ⟨m, b1, nx, m2, b2, nx2, hX, hR, rfl⟩, ?_⟩
 refine ⟨⟨.inr rfl, _, [], (by simp; rfl), trivial, trivial, by simp [dfT, bools], ?_⟩, by simp [dfT, bools]⟩
 simp [ints, rows, dfT, bools]
end Go.Proofs.YtnffigeofdagfaaDoor.M
