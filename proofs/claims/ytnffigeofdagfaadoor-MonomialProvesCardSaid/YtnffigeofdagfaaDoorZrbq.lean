/-
  Edges of nondeterministic automata as lists, in plain Lean; steps (dfa).
  Walk in my logic: steps (dfa).
  Walk in my logic: Validate (nfa).
-/
import Derived.Test.YtnffigeofdagfaaDoorZrbp
import Derived.Test.YtnffigeofdagfaaDoorZrbj
import Derived.Test.YtnffigeofdagfaaDoorZral
import Derived.Test.YtnffigeofdagfaaDoorZrbo
namespace Go.Proofs.YtnffigeofdagfaaDoor.M
open Go.RowKit
set_option linter.unusedVariables false
set_option linter.unusedSimpArgs false

abbrev Ed := Nat × Nat × Nat
def edC (es : List Ed) : List T := es.flatMap fun e => [.int .i64 (e.1 : Int), .int .i64 (e.2.1 : Int), .int .i64 (e.2.2 : Int)]
@[simp] theorem edC_len (es : List Ed) : (edC es).length = es.length * 3 := by
 unfold edC
 induction es with
 | nil => rfl
 | cons e es ih => simp [List.flatMap_cons, ih]; omega
theorem edC_snoc (es : List Ed) (e : Ed) : edC (es ++ [e]) = edC es ++ [.int .i64 (e.1 : Int), .int .i64 (e.2.1 : Int), .int .i64 (e.2.2 : Int)] := by simp [edC]
theorem ed_drop : ∀ (es : List Ed) (k : Nat), (edC es).drop (k * 3) = edC (es.drop k)
 | [], k => by simp [edC]
 | e :: es, 0 => by simp
 | e :: es, k + 1 => by
  have := ed_drop es k
  rw [show (k + 1) * 3 = k * 3 + 3 by omega]
  simpa [edC] using this
theorem ed_at {es : List Ed} {k : Nat} (h : k < es.length) : List.take 3 (List.drop (k * 3) (edC es)) = [.int .i64 (es[k].1 : Int), .int .i64 (es[k].2.1 : Int), .int .i64 (es[k].2.2 : Int)] := by
 rw [ed_drop, List.drop_eq_getElem_cons h, edC, List.flatMap_cons]
 rfl
theorem ed_in {es : List Ed} {k : Nat} (h : k < es.length) : k * 3 + 3 ≤ es.length * 3 := by omega
def nfT (p L m st fi : Nat) (es : List Ed) : AV := .agg [.t 2 (.int .i64 L), .t 2 (.int .i64 m), .t 2 (.int .u64 (st : Nat)), .t 2 (.int .u64 (fi : Nat)), .t p (.sl 3 (edC es))]
structure RevE (L m : Nat) (nx : List (List Int)) (es : List Ed) : Prop where
 mem : ∀ e : Ed, e ∈ es ↔ e.1 < m ∧ e.2.1 < L ∧ e.2.2 < m ∧ stepR nx e.2.2 e.2.1 = e.1
 len : es.length ≤ 3072
def stpM (m : Nat) (es : List Ed) (x p : Nat) : Nat := mkM (fun q => es.any fun e => decide (e = (p, x, q))) m
theorem stpM_snoc {m : Nat} {es : List Ed} {e : Ed} {x p : Nat} (he : e.2.2 < m) : stpM m (es ++ [e]) x p = if x = e.2.1 ∧ p = e.1 then stpM m es x p ||| 2 ^ e.2.2 else stpM m es x p := by
 obtain ⟨a, b, c⟩ := e
 simp only at he
 have h2 : 2 ^ c < 2 ^ m := Nat.pow_lt_pow_right (by omega) he
 by_cases h : x = b ∧ p = a
 ·rw [if_pos h]
  obtain ⟨rfl, rfl⟩ := h
  refine bits_eq (mkM_lt _ _) (Nat.or_lt_two_pow (mkM_lt _ _) h2) (fun q hq => ?_)
  rw [stpM, mkM_bit, Nat.testBit_or, stpM, mkM_bit, Nat.testBit_two_pow, List.any_append]
  simp only [hq, decide_true, Bool.true_and, List.any_cons, List.any_nil, Bool.or_false, Prod.mk.injEq, true_and]
 ·rw [if_neg h]
  refine bits_eq (mkM_lt _ _) (mkM_lt _ _) (fun q hq => ?_)
  rw [stpM, mkM_bit, stpM, mkM_bit, List.any_append]
  have : decide ((a, b, c) = (p, x, q)) = false := by
   simp only [Prod.mk.injEq, decide_eq_false_iff_not]
   rintro ⟨rfl, rfl, -⟩
   exact h ⟨rfl, rfl⟩
  rw [List.any_cons, List.any_nil, this, Bool.or_false, Bool.or_false]
theorem stpM_all {L m s : Nat} {bs : List Bool} {nx : List (List Int)} {es : List Ed} (hD : DfL L m s bs nx) (h : RevE L m nx es) {x p : Nat} (hx : x < L) (hp : p < m) : stpM m es x p = preS m nx x p := by
 refine bits_eq (mkM_lt _ _) (mkM_lt _ _) (fun q hq => ?_)
 rw [stpM, mkM_bit, preS, mkM_bit]
 simp only [hq, decide_true, Bool.true_and]
 rw [Bool.eq_iff_iff, List.any_eq_true]
 simp only [decide_eq_true_eq]
 constructor
 ·rintro ⟨e, h1, rfl⟩
  exact ((h.mem _).1 h1).2.2.2
 ·intro g
  exact ⟨_, (h.mem (p, x, q)).2 ⟨hp, hx, hq, g⟩, rfl⟩

attribute [local simp] KL_ap KD_ap awpL_nil awpL_cons awpD_nil awpD_cons awpOp awpOpD wrE gd aop aBuiltin aNil aMin ASt.eval AV.ofV dstOk ASt.app Eff.heap dels upd_b aLoad aStore aField aFieldV aIndexAddr aIndex aSlice aSliceO aLen aBin iB sB aUn aConv aAlloc aBox aBuild afill avCells AV.leaf setR aBuildSlice frz frzL isOwn vecOf tsOf aMake srcOf aAppend aMkMap aMapUpd aLookup oint cut putL AObj.cnt mkS envOf_nil envOf_cons heapOf_nil heapOf_cons argS Nat.blt_eq callS outV outVs outO heap2 addL delL List.getElem?_cons_zero wkE wkP wkPs wkH wkO keysNd unm mpOf_nil mpOf_cons mkF famM_at famM_lt famU famH_at famH_lt ovr_at ovr_lt ghA ghA1 idxF resV
set_option linter.unusedSimpArgs false

def nfO (p L m st fi : Nat) (es : List Ed) : AObj := .box 123 [.t 2 (.int .i64 L), .t 2 (.int .i64 m), .t 2 (.int .u64 (st : Nat)), .t 2 (.int .u64 (fi : Nat)), .t p (.sl 3 (edC es))]
theorem stpM_nil (m x p : Nat) : stpM m [] x p = 0 := by
 refine bits_eq (mkM_lt _ _) (Nat.two_pow_pos m) (fun q hq => ?_)
 rw [stpM, mkM_bit]
 simp
theorem u64_tab {m : Nat} (F : Nat → Nat) : u64T (tab m F) = tab m fun p => .int .u64 (F p : Int) := by rw [u64T, tab_map]
set_option maxRecDepth 100000 in
set_option maxHeartbeats 16000000 in
theorem steps_fn {L m s st fi : Nat} {bs : List Bool} {nx : List (List Int)} {es : List Ed} (hD : DfL L m s bs nx) (hL : 1 ≤ L) (hL2 : L ≤ 6) (hm : m ≤ 63) (hE : RevE L m nx es) :
  FnS Tryd.prog 105 [nfT 0 L m st fi es] [] (.fn 117 [.ptr 0 0 1]) [.box 174 [.t 1 (nextT L m nx)]] := by
 have hel := hE.len
 have hz0 : u64T (tab m fun _ => 0) = List.replicate m (.int .u64 0) := by rw [rep_tab, u64T, tab_map]; rfl
 refine fn_intro Tryd.func105 rfl (by simp [Tryd.f105]) ?_
 rw [show Tryd.f105.ntmps = 45 from rfl, show Tryd.f105.results = #[.tmp 2] from rfl]
 refine awp_seqR fun K hK => ?_
 simp (disch := omega) [ints, rows, scal, wr64, wr8, nfT]
 (repeat' first | apply hK | apply And.intro) <;> try first | (show okH _ _ _ = true; kernel_rfl) | omega | rfl | (simp <;> omega)
 refine awp_seqR fun K hK => ?_
 simp (disch := omega) [ints, rows, scal, wr64, wr8]
 (repeat' first | apply hK | apply And.intro) <;> try first | (show okH _ _ _ = true; kernel_rfl) | omega | rfl | (simp <;> omega)
 refine awp_seq ?_
 refine awp_seqR fun K hK => ?_
 simp (disch := omega) [ints, rows, scal, wr64, wr8]
 (repeat' first | apply hK | apply And.intro) <;> try first | (show okH _ _ _ = true; kernel_rfl) | omega | rfl | (simp <;> omega)
 refine awp_block ?_
 refine awp_loop (fun x : Nat => mkF [(1, .ptr 0 0 5), (3, .ptr 1 0 1), (11, .t 2 (.int .i64 L)), (12, .t 2 (.int .i64 x))]
   [(0, nfO 0 L m st fi es), (1, .box 174 [.own 2 L]), (2, .vec 62 1 2 (tab L fun j => if j < x then .own (j + 100) m else .t 2 (.sl 0 [])))]
   100 x (fun j => .row 73 1 2 (u64T (tab m fun _ => 0))) 1000 45 [.any]) (fun x => x ≤ L) (fun x => L - x) ?_ ?_
 ·refine ⟨0, by omega, ?_⟩
  refine wk_fam [(0, some 0), (1, some 5000000), (2, some 4000000)] (fun j => j) rfl ?_ ?_ ?_ ?_ ?_ ?_
  all_goals try simp +contextual (disch := omega) [beq_gt, beq_lt, eq_lt, eq_gt, lt_t, List.getElem?_cons_succ, Option.getD_some, callF, ints, scal, tpO, wkPs_snoc, wkPs_tab, nfT, nfO, rep_tab, tab_map]
  all_goals (try omega)
 intro x hx
 refine awp_seqR fun K hK => ?_
 simp (disch := omega) [ints, rows, scal, wr64, wr8]
 (repeat' first | apply hK | apply And.intro) <;> try first | (show okH _ _ _ = true; kernel_rfl) | omega | rfl | (simp <;> omega)
 refine awp_seq ?_
 by_cases hxl : x < L
 ·refine awp_cond (b := true) (p := 2) (by simp [scal, hxl] <;> omega) ?_
  refine awp_skip ?_
  show awp _ _ _ _
  refine awp_seq ?_
  refine awp_block ?_
  refine awp_seqR fun K hK => ?_
  simp (disch := omega) [ints, rows, scal, wr64, wr8]
  (repeat' first | apply hK | apply And.intro) <;> try first | (show okH _ _ _ = true; kernel_rfl) | omega | rfl | (simp <;> omega)
  refine awp_RD (by kernel_rfl) (fun K hK => ?_)
  simp (disch := omega) [ints, rows, scal, wr64, wr8, nfO, hxl, tab_set]
  (repeat' first | apply hK | apply And.intro) <;> try first | (show chkD _ _ = true; kernel_rfl) | (show okH _ _ _ = true; kernel_rfl) | omega | rfl | (simp <;> omega)
  show awp _ _ _ _
  refine awp_R fun K hK => ?_
  simp (disch := omega) [ints, rows, scal, wr64, wr8]
  (repeat' first | apply hK | apply And.intro) <;> try first | (show okH _ _ _ = true; kernel_rfl) | omega | rfl | (simp <;> omega)
  refine ⟨x + 1, by omega, by omega, ?_⟩
  refine wk_fam [(0, some 0), (1, some 1), (2, some 2)] (fun j => if j < x then j + 100 else 7001000) rfl ?_ ?_ ?_ ?_ ?_ ?_
  all_goals try simp +contextual (disch := omega) [beq_gt, beq_lt, eq_lt, eq_gt, lt_t, List.getElem?_cons_succ, Option.getD_some, callF, ints, scal, tpO, wkPs_snoc, wkPs_tab, nfO, tab_succ, famM_at', famH_at']
  all_goals (try omega)
  ·intro j hj
   by_cases e : j = x
   ·subst e
    simp +contextual (disch := omega) [beq_gt, beq_lt, eq_lt, eq_gt, lt_t, List.getElem?_cons_succ, Option.getD_some, callF, ints, scal, tpO, wkPs_snoc, wkPs_tab, famM_at', famH_at']
   ·by_cases e2 : j < x
    ·simp +contextual (disch := omega) [beq_gt, beq_lt, eq_lt, eq_gt, lt_t, List.getElem?_cons_succ, Option.getD_some, callF, ints, scal, tpO, wkPs_snoc, wkPs_tab, e, e2, show j < x + 1 by omega, famM_at', famH_at']
    ·simp +contextual (disch := omega) [beq_gt, beq_lt, eq_lt, eq_gt, lt_t, List.getElem?_cons_succ, Option.getD_some, callF, ints, scal, tpO, wkPs_snoc, wkPs_tab, e, e2, show ¬ j < x + 1 by omega]
  ·intro j hj
   by_cases e2 : j < x
   ·simp +contextual (disch := omega) [beq_gt, beq_lt, eq_lt, eq_gt, lt_t, List.getElem?_cons_succ, Option.getD_some, callF, ints, scal, tpO, wkPs_snoc, wkPs_tab, e2, famM_at', famH_at', beq_ne (show j + 100 ≠ 7001000 by omega), beq_ne (show j + 100 ≠ 2 by omega)]
   ·simp +contextual (disch := omega) [beq_gt, beq_lt, eq_lt, eq_gt, lt_t, List.getElem?_cons_succ, Option.getD_some, callF, ints, scal, tpO, wkPs_snoc, wkPs_tab, e2, hz0]
  ·intro i j hi hj h
   split at h <;> split at h <;> omega
 ·obtain rfl : x = L := by omega
  refine awp_cond (b := false) (p := 2) (by simp [scal] <;> omega) ?_
  refine awp_exit ?_
  show awp _ _ _ _
  refine awp_seq ?_
  refine awp_seqR fun K hK => ?_
  simp (disch := omega) [ints, rows, scal, wr64, wr8, nfO]
  (repeat' first | apply hK | apply And.intro) <;> try first | (show okH _ _ _ = true; kernel_rfl) | omega | rfl | (simp <;> omega)
  refine awp_block ?_
  refine awp_loop (fun k : Nat => mkF [(1, .ptr 0 0 5), (3, .ptr 1 0 1), (23, .t 0 (.sl 3 (edC es))), (24, .t 2 (.int .i64 es.length)), (25, .t 2 (.int .i64 k))]
    [(0, nfO 0 x m st fi es), (1, .box 174 [.own 2 x]), (2, .vec 62 1 2 (tab x fun j => .own (j + 100) m))]
    100 x (fun j => .row 73 1 2 (u64T (tab m fun p => stpM m (es.take k) j p))) 1000 45 [.any]) (fun k => k ≤ es.length) (fun k => es.length - k) ?_ ?_
  ·refine ⟨0, by omega, ?_⟩
   refine wk_fam [(0, some 0), (1, some 1), (2, some 2)] (fun j => j + 100) rfl ?_ ?_ ?_ ?_ ?_ ?_
   all_goals try simp +contextual (disch := omega) [beq_gt, beq_lt, eq_lt, eq_gt, lt_t, List.getElem?_cons_succ, Option.getD_some, callF, ints, scal, tpO, wkPs_snoc, wkPs_tab, nfO, stpM_nil, famM_at', famH_at']
   all_goals (try omega)
  intro k hk
  refine awp_seqR fun K hK => ?_
  simp (disch := omega) [ints, rows, scal, wr64, wr8]
  (repeat' first | apply hK | apply And.intro) <;> try first | (show okH _ _ _ = true; kernel_rfl) | omega | rfl | (simp <;> omega)
  refine awp_seq ?_
  by_cases hkl : k < es.length
  ·have hat := ed_at hkl
   have hin := ed_in hkl
   obtain ⟨e1, e2, e3, e4⟩ := (hE.mem es[k]).1 (by simp)
   refine awp_cond (b := true) (p := 2) (by simp [scal, hkl] <;> omega) ?_
   refine awp_skip ?_
   show awp _ _ _ _
   refine awp_seq ?_
   refine awp_block ?_
   refine awp_seqR fun K hK => ?_
   simp (disch := omega) [ints, rows, scal, wr64, wr8, hat, hin]
   (repeat' first | apply hK | apply And.intro) <;> try first | (show okH _ _ _ = true; kernel_rfl) | omega | rfl | (simp <;> omega)
   have htk : es.take (k + 1) = es.take k ++ [es[k]] := List.take_succ_eq_append_getElem hkl
   have hsn : ∀ j p, stpM m (es.take (k + 1)) j p = if j = es[k].2.1 ∧ p = es[k].1 then stpM m (es.take k) j p ||| 2 ^ es[k].2.2 else stpM m (es.take k) j p := fun j p => by rw [htk]; exact stpM_snoc e3
   have hsh := shl_bit (i := es[k].2.2) (by omega)
   have hb2 := bit_lt (i := es[k].2.2) (by omega)
   have h63 : 2 ^ m ≤ 2 ^ 63 := Nat.pow_le_pow_right (by omega) hm
   have hlt : ∀ j p, stpM m (es.take k) j p < 2 ^ m := fun j p => mkM_lt _ _
   have hcur := hlt es[k].2.1 es[k].1
   have hor := orN (x := stpM m (es.take k) es[k].2.1 es[k].1) (y := 2 ^ es[k].2.2) (by omega) hb2
   generalize es[k].1 = a at *
   generalize es[k].2.1 = b at *
   generalize es[k].2.2 = c at *
   generalize 2 ^ c = d at *
   have hb9 : (b == 3000900) = false := beq_ne (by omega)
   refine awp_RD (by kernel_rfl) (fun K hK => ?_)
   simp (disch := omega) [ints, rows, scal, wr64, wr8, famH_at', u64_tab, e1, e2, hsh, hor, tab_set, hb9]
   (repeat' first | apply hK | apply And.intro) <;> try first | (show chkD _ _ = true; kernel_rfl) | (show okH _ _ _ = true; kernel_rfl) | omega | rfl | (simp <;> omega)
   show awp _ _ _ _
   refine awp_R fun K hK => ?_
   simp (disch := omega) [ints, rows, scal, wr64, wr8]
   (repeat' first | apply hK | apply And.intro) <;> try first | (show okH _ _ _ = true; kernel_rfl) | omega | rfl | (simp <;> omega)
   refine ⟨k + 1, by omega, by omega, ?_⟩
   refine wk_fam [(0, some 0), (1, some 1), (2, some 2)] (fun j => j + 100) rfl ?_ ?_ ?_ ?_ ?_ ?_
   all_goals try simp +contextual (disch := omega) [beq_gt, beq_lt, eq_lt, eq_gt, lt_t, List.getElem?_cons_succ, Option.getD_some, callF, ints, scal, tpO, wkPs_snoc, wkPs_tab, nfO, famM_at', famH_at', u64_tab]
   all_goals (try omega)
   intro j hj
   by_cases e : j = b
   ·subst e
    have hrow : (tab m fun p => T.int .u64 ((stpM m (es.take (k + 1)) j p : Nat) : Int)) = tab m fun i => if i = a then T.int .u64 ((stpM m (es.take k) j a ||| d : Nat) : Int) else T.int .u64 ((stpM m (es.take k) j i : Nat) : Int) := tab_congr (fun p hp => by
     rw [hsn]
     by_cases ep : p = a
     ·subst ep; simp
     ·simp [ep])
    rw [hrow]
    simp +contextual (disch := omega) [beq_gt, beq_lt, eq_lt, eq_gt, lt_t, List.getElem?_cons_succ, Option.getD_some, callF, ints, scal, tpO, wkPs_snoc, wkPs_tab]
   ·have hrow : (tab m fun p => T.int .u64 ((stpM m (es.take (k + 1)) j p : Nat) : Int)) = tab m fun i => T.int .u64 ((stpM m (es.take k) j i : Nat) : Int) := tab_congr (fun p hp => by
     rw [hsn]
     simp [e])
    rw [hrow]
    simp +contextual (disch := omega) [beq_gt, beq_lt, eq_lt, eq_gt, lt_t, List.getElem?_cons_succ, Option.getD_some, callF, ints, scal, tpO, wkPs_snoc, wkPs_tab, beq_ne (show j ≠ b from e)]
  ·obtain rfl : k = es.length := by omega
   refine awp_cond (b := false) (p := 2) (by simp [scal] <;> omega) ?_
   refine awp_exit ?_
   show awp _ _ _ _
   rw [List.take_length]
   have hst : ∀ j, j < x → (T.sl 1 (u64T (tab m fun p => stpM m es j p))) = T.sl 1 (u64T (preL m nx j)) := fun j hj => by
    congr 2
    exact tab_congr (fun p hp => stpM_all hD hE hj hp)
   refine awp_weak (σ' := mkS [(3, .ptr 1 0 1)] [(1, .box 174 [.own 2 x]), (2, .row 62 1 2 (tab x fun j => .sl 1 (u64T (tab m fun p => stpM m es j p))))] 3 45 [.any]) ?_ ?_
   ·refine wk_list [(1, some 1), (2, some 2)] rfl ?_ ?_ ?_ ?_
    all_goals try simp [ints, famH_at', wkT_tab, wk1, nfO]
    intro j hj
    simp +contextual (disch := omega) [beq_gt, beq_lt, eq_lt, eq_gt, lt_t, List.getElem?_cons_succ, Option.getD_some, callF, ints, scal, tpO, wkPs_snoc, wkPs_tab, famH_at']
   have heq : (tab x fun j => T.sl 1 (u64T (tab m fun p => stpM m es j p))) = tab x fun j => T.sl 1 (u64T (preL m nx j)) := tab_congr (fun j hj => hst j hj)
   rw [heq]
   refine awp_weak (σ' := mkS [(3, .ptr 1 0 1)] [(1, .box 174 [.t 2 (nextT x m nx)])] 3 45 [.any]) ?_ ?_
   ·refine wk_list [(1, some 1)] rfl ?_ ?_ ?_ ?_
    all_goals try simp [ints, nextT]
   refine awp_seqR fun K hK => ?_
   simp (disch := omega) [ints, rows, scal, wr64, wr8]
   (repeat' first | apply hK | apply And.intro) <;> try first | (show okH _ _ _ = true; kernel_rfl) | omega | rfl | (simp <;> omega)
   refine awp_ret ?_
   refine ⟨⟨.inr rfl, _, [(0, some 1)], (by first | rfl | (simp [ints, rows, scal, tpO, nfT]; rfl)), ?_, ?_, ?_, ?_⟩, ?_⟩
   all_goals try simp [ints, rows, scal, tpO, nfT]

attribute [local simp] KL_ap KD_ap awpL_nil awpL_cons awpD_nil awpD_cons awpOp awpOpD wrE gd aop aBuiltin aNil aMin ASt.eval AV.ofV dstOk ASt.app Eff.heap dels upd_b aLoad aStore aField aFieldV aIndexAddr aIndex aSlice aSliceO aLen aBin iB sB aUn aConv aAlloc aBox aBuild afill avCells AV.leaf setR aBuildSlice frz frzL isOwn vecOf tsOf aMake srcOf aAppend aMkMap aMapUpd aLookup oint cut putL AObj.cnt mkS envOf_nil envOf_cons heapOf_nil heapOf_cons argS Nat.blt_eq callS outV outVs outO heap2 addL delL List.getElem?_cons_zero okO inPs inP wkE wkP wkPs wkH wkO keysNd unm mpOf_nil mpOf_cons ghA ghA1 ndL inOs inO
set_option linter.unusedSimpArgs false

def edZ (e : Ed) : Int × Int × Int := (e.1, e.2.1, e.2.2)
def edLt (a b : Ed) : Prop := a.1 < b.1 ∨ a.1 = b.1 ∧ (a.2.1 < b.2.1 ∨ a.2.1 = b.2.1 ∧ a.2.2 < b.2.2)
theorem cmpI_lt {x y : Nat} (h : x < y) : cmpI (x : Int) (y : Int) = -1 := by
 unfold cmpI; rw [if_pos (by omega)]
theorem cmpI_eq (x : Int) : cmpI x x = 0 := by simp [cmpI]
theorem cmpI_gt {x y : Nat} (h : y < x) : cmpI (x : Int) (y : Int) = 1 := by
 unfold cmpI; rw [if_neg (by omega), if_pos (by omega)]
theorem cmpE_lt {a b : Ed} (h : edLt a b) : cmpE (edZ a) (edZ b) = -1 := by
 obtain ⟨a1, a2, a3⟩ := a
 obtain ⟨b1, b2, b3⟩ := b
 unfold edLt at h
 simp only at h
 unfold cmpE edZ
 simp only
 rcases h with h | ⟨rfl, h | ⟨rfl, h⟩⟩
 ·rw [cmpI_lt h]; rfl
 ·rw [cmpI_eq, cmpI_lt h]; rfl
 ·rw [cmpI_eq, cmpI_eq, cmpI_lt h]; rfl
theorem edLt_ne {a b : Ed} (h : edLt a b) : a ≠ b := by
 rintro rfl
 unfold edLt at h
 omega
structure EdOK (L m : Nat) (es : List Ed) : Prop where
 rng : ∀ e ∈ es, e.1 < m ∧ e.2.1 < L ∧ e.2.2 < m
 srt : ∀ i (h : i + 1 < es.length), edLt es[i] es[i + 1]
theorem agB_ed : agB Tryd.prog 143 3 = true := by kernel_rfl
set_option maxRecDepth 100000 in
set_option maxHeartbeats 8000000 in
theorem nvalidate_fn {L m st fi : Nat} {es : List Ed} (hE : EdOK L m es) (hL : 1 ≤ L) (hL2 : L ≤ 6) (hm : m ≤ 63) (hs : st < 2 ^ m) (hf : fi < 2 ^ m) (hl : es.length ≤ 100000) : FnA Tryd.prog 93 [nfT 0 L m st fi es] (.t 2 (.int .i64 0)) := by
 have hst := nstates_fn hm
 have h64 : 2 ^ m ≤ 2 ^ 63 := Nat.pow_le_pow_right (by omega) hm
 have hor := orN (x := st) (y := fi) (by omega) (by omega)
 have hu : st ||| fi < 2 ^ m := Nat.or_lt_two_pow hs hf
 have hand := andn_full hu hm
 generalize st ||| fi = un at hor hand
 generalize 2 ^ m - 1 = full at hst hand
 refine fn_intro Tryd.func93 rfl (by simp [Tryd.f93]) ?_
 rw [show Tryd.f93.ntmps = 90 from rfl, show Tryd.f93.results = #[.tmp 2] from rfl]
 have a1 : ¬ (L : Int) < 1 := by omega
 have a2 : ¬ (6 : Int) < (L : Int) := by omega
 have a3 : ¬ (m : Int) < 0 := by omega
 have a4 : ¬ (64 : Int) < (m : Int) := by omega
 refine awp_seqR fun K hK => ?_
 simp (disch := omega) [ints, rows, scal, wr64, wr8, nfT]
 (repeat' first | apply hK | apply And.intro) <;> try first | (show okH _ _ _ = true; kernel_rfl) | omega | rfl | (simp <;> omega)
 refine awp_seq ?_
 refine awp_seqR fun K hK => ?_
 simp (disch := omega) [ints, rows, scal, wr64, wr8, a1, a2, a3, a4]
 (repeat' first | apply hK | apply And.intro) <;> try first | (show okH _ _ _ = true; kernel_rfl) | omega | rfl | (simp <;> omega)
 refine awp_cond (b := false) (p := 2) (by simp [scal] <;> omega) ?_
 refine awp_skip ?_
 show awp _ _ _ _
 refine awp_seq ?_
 refine awp_seqD (by kernel_rfl) (fun K hK => ?_)
 simp (disch := omega) [ints, rows, scal, wr64, wr8, hor]
 (repeat' apply And.intro)
 all_goals (try omega)
 refine call_ruleD (caps := []) (hst) [] [] 2 rfl rfl rfl rfl (by kernel_rfl) (by simp) ?_ trivial trivial rfl trivial trivial (by simp) ?_
 ·simp [scal, rows, ints]
 simp (disch := omega) [ints, rows, scal, wr64, wr8, hand]
 (repeat' first | apply hK | apply And.intro) <;> try first | (show chkD _ _ = true; kernel_rfl) | (show okH _ _ _ = true; kernel_rfl) | omega | rfl | (simp <;> omega)
 refine awp_cond (b := false) (p := 2) (by simp [scal] <;> omega) ?_
 refine awp_skip ?_
 show awp _ _ _ _
 refine awp_seq ?_
 refine awp_seqR fun K hK => ?_
 simp (disch := omega) [ints, rows, scal, wr64, wr8]
 (repeat' first | apply hK | apply And.intro) <;> try first | (show okH _ _ _ = true; kernel_rfl) | omega | rfl | (simp <;> omega)
 refine awp_block ?_
 refine awp_loop (fun i : Nat => mkS [(1, .ptr 0 0 5), (34, .t 0 (.sl 3 (edC es))), (35, .t 2 (.int .i64 es.length)), (36, .t 2 (.int .i64 i))] [(0, nfO 0 L m st fi es)] 1 90 [.any]) (fun i => i ≤ es.length) (fun i => es.length - i) ?_ ?_
 ·refine ⟨0, by omega, ?_⟩
  refine wk_list [(0, some 0)] rfl ?_ ?_ ?_ ?_
  all_goals try simp [ints, nfT, nfO]
 intro i hi
 refine awp_seqR fun K hK => ?_
 simp (disch := omega) [ints, rows, scal, wr64, wr8]
 (repeat' first | apply hK | apply And.intro) <;> try first | (show okH _ _ _ = true; kernel_rfl) | omega | rfl | (simp <;> omega)
 refine awp_seq ?_
 by_cases hil : i < es.length
 ·have hat := ed_at hil
  have hin := ed_in hil
  obtain ⟨e1, e2, e3⟩ := hE.rng es[i] (by simp)
  refine awp_cond (b := true) (p := 2) (by simp [scal, hil] <;> omega) ?_
  refine awp_skip ?_
  show awp _ _ _ _
  refine awp_seq ?_
  refine awp_block ?_
  refine awp_seqR fun K hK => ?_
  simp (disch := omega) [ints, rows, scal, wr64, wr8, hat, hin]
  (repeat' first | apply hK | apply And.intro) <;> try first | (show okH _ _ _ = true; kernel_rfl) | omega | rfl | (simp <;> omega)
  have hsrt : 0 < i → ∃ h : i - 1 < es.length, edLt es[i - 1] es[i] := fun h0 => ⟨by omega, by
   have := hE.srt (i - 1) (by omega)
   simpa [show i - 1 + 1 = i by omega] using this⟩
  have hat1 : 0 < i → ∃ x : Ed, List.take 3 (List.drop ((i - 1) * 3) (edC es)) = [.int .i64 (x.1 : Int), .int .i64 (x.2.1 : Int), .int .i64 (x.2.2 : Int)] ∧ edLt x es[i] := fun h0 => by
   obtain ⟨h1, h2⟩ := hsrt h0
   exact ⟨es[i - 1], ed_at h1, h2⟩
  clear hsrt
  generalize es[i] = e at *
  obtain ⟨a, b, c⟩ := e
  simp only at e1 e2 e3 hat
  obtain ⟨mn, hmn, hmn0⟩ : ∃ mn : Int, aMin3 (.t 2 (.int .i64 (a : Int))) (.t 2 (.int .i64 (b : Int))) (.t 2 (.int .i64 (c : Int))) = some (true, { val := .t 2 (.int .i64 mn) }) ∧ ¬ mn < 0 := ⟨_, rfl, by split <;> split <;> omega⟩
  obtain ⟨mx, hmx, hmx0⟩ : ∃ mx : Int, aMin true (.t 2 (.int .i64 (a : Int))) (.t 2 (.int .i64 (c : Int))) = some (true, { val := .t 2 (.int .i64 mx) }) ∧ ¬ (m : Int) ≤ mx := ⟨_, rfl, by simp only [if_true]; split <;> omega⟩
  have hb0 : ¬ (L : Int) ≤ (b : Int) := by omega
  refine awp_seq ?_
  refine awp_seqR fun K hK => ?_
  simp (disch := omega) [ints, rows, scal, wr64, wr8, nfO, -aMin3, -aMin, hmn, hmx, hmn0, hmx0, hb0]
  (repeat' first | apply hK | apply And.intro) <;> try first | (show okH _ _ _ = true; kernel_rfl) | omega | rfl | (simp <;> omega)
  refine awp_cond (b := false) (p := 2) (by simp [scal] <;> omega) ?_
  refine awp_skip ?_
  show awp _ _ _ _
  by_cases h0 : i = 0
  ·subst h0
   refine awp_seqD (by kernel_rfl) (fun K hK => ?_)
   simp (disch := omega) [ints, rows, scal, wr64, wr8, nfO]
   (repeat' first | apply hK | apply And.intro) <;> try first | (show chkD _ _ = true; kernel_rfl) | (show okH _ _ _ = true; kernel_rfl) | omega | rfl | (simp <;> omega)
   refine awp_cond (b := false) (p := 2) (by simp [scal] <;> omega) ?_
   refine awp_skip ?_
   show awp _ _ _ _
   refine awp_R fun K hK => ?_
   simp (disch := omega) [ints, rows, scal, wr64, wr8]
   (repeat' first | apply hK | apply And.intro) <;> try first | (show okH _ _ _ = true; kernel_rfl) | omega | rfl | (simp <;> omega)
   refine ⟨1, by omega, by omega, ?_⟩
   refine wk_list [(0, some 0)] rfl ?_ ?_ ?_ ?_
   all_goals try simp [ints, nfO]
  ·have h0i : (0 : Int) < (i : Int) := by omega
   obtain ⟨x, hx, hlt⟩ := hat1 (by omega)
   have hin1 : (i - 1) * 3 + 3 ≤ es.length * 3 := by omega
   have hi1 : IntKind.i64.wrap ((i : Int) - 1) = ((i - 1 : Nat) : Int) := by
    rw [show ((i : Int) - 1) = ((i - 1 : Nat) : Int) by omega]; rw [IntKind.wrap_i64]; omega
   have hce := cmpEdges_fn (edZ x) (edZ (a, b, c))
   rw [cmpE_lt hlt] at hce
   have hne := edLt_ne hlt
   obtain ⟨x1, x2, x3⟩ := x
   simp only at hx
   have hk : kEqL [.int .i64 (x1 : Int), .int .i64 (x2 : Int), .int .i64 (x3 : Int)] [.int .i64 (a : Int), .int .i64 (b : Int), .int .i64 (c : Int)] = false := by
    rw [Bool.eq_false_iff]
    intro h
    simp only [kEqL, Bool.and_eq_true, beq_iff_eq, and_true] at h
    obtain ⟨q1, q2, q3⟩ := h
    exact hne (by rw [show x1 = a by omega, show x2 = b by omega, show x3 = c by omega])
   generalize i - 1 = i1 at hx hin1 hi1
   refine awp_seqD (by kernel_rfl) (fun K hK => ?_)
   have h0n : 0 < i := by omega
   simp (disch := omega) [ints, rows, scal, wr64, wr8, h0i, h0n, h0, nfO, hi1, hx, hin1, agB_ed, keyL, hk]
   (repeat' apply And.intro)
   all_goals (try omega)
   refine call_ruleD (caps := []) (hce) [] [] 2 (by simp [edV, edZ]) rfl rfl rfl (by kernel_rfl) (by simp) ?_ ?_ (by simp) rfl (by simp) trivial (by simp [edV, edZ]) ?_
   ·simp [scal, rows, ints, edV, edZ]
   ·trivial
   simp (disch := omega) [ints, rows, scal, wr64, wr8]
   (repeat' first | apply hK | apply And.intro) <;> try first | (show chkD _ _ = true; kernel_rfl) | (show okH _ _ _ = true; kernel_rfl) | omega | rfl | (simp <;> omega)
   refine awp_cond (b := false) (p := 2) (by simp [scal] <;> omega) ?_
   refine awp_skip ?_
   show awp _ _ _ _
   refine awp_R fun K hK => ?_
   simp (disch := omega) [ints, rows, scal, wr64, wr8]
   (repeat' first | apply hK | apply And.intro) <;> try first | (show okH _ _ _ = true; kernel_rfl) | omega | rfl | (simp <;> omega)
   refine ⟨i + 1, by omega, by omega, ?_⟩
   refine wk_list [(0, some 0)] rfl ?_ ?_ ?_ ?_
   all_goals try simp [ints, nfO]
 ·refine awp_cond (b := false) (p := 2) (by simp [scal, hil] <;> omega) ?_
  refine awp_exit ?_
  show awp _ _ _ _
  refine awp_seqR fun K hK => ?_
  simp (disch := omega) [ints, rows, scal, wr64, wr8]
  (repeat' first | apply hK | apply And.intro) <;> try first | (show okH _ _ _ = true; kernel_rfl) | omega | rfl | (simp <;> omega)
  refine awp_ret ?_
  refine ⟨⟨.inr rfl, _, [], rfl, trivial, trivial, by simp [nfT], ?_⟩, by simp [nfT]⟩
  simp [nfT]
end Go.Proofs.YtnffigeofdagfaaDoor.M
