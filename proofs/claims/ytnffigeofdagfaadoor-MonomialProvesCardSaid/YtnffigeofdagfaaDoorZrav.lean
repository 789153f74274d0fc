/-
  Walks in my logic: ordered (monomial), for any automaton.
-/
import Derived.Test.YtnffigeofdagfaaDoorZras
import Derived.Test.YtnffigeofdagfaaDoorZraq
import Derived.Test.YtnffigeofdagfaaDoorZrau
namespace Go.Proofs.YtnffigeofdagfaaDoor.M
open Go.RowKit
set_option linter.unusedVariables false
attribute [local simp] KL_ap KD_ap awpL_nil awpL_cons awpD_nil awpD_cons awpOp awpOpD wrE gd aop aBuiltin aNil aMin ASt.eval AV.ofV dstOk ASt.app Eff.heap dels upd_b aLoad aStore aField aFieldV aIndexAddr aIndex aSlice aSliceO aLen aBin iB sB aUn aConv aAlloc aBox aBuild afill avCells AV.leaf setR aBuildSlice frz frzL isOwn vecOf tsOf aMake srcOf aAppend aMkMap aMapUpd aLookup oint cut putL AObj.cnt mkS envOf_nil envOf_cons heapOf_nil heapOf_cons argS Nat.blt_eq callS outV outVs outO heap2 addL delL List.getElem?_cons_zero wkE wkP wkPs wkH wkO keysNd unm mpOf_nil mpOf_cons ghA ghA1
set_option linter.unusedSimpArgs false

theorem natsT_at {ss : List Nat} {i q : Nat} (h : ss[i]? = some q) : (natsT ss)[i]? = some (.int .i64 (q : Int)) := by
 rw [natsT, List.getElem?_map, h]
 rfl
theorem natsT_snoc (ss : List Nat) (q : Nat) : natsT ss ++ [.int .i64 (q : Int)] = natsT (ss ++ [q]) := by simp [natsT]
theorem mul_le3 {n L : Nat} (hn : n ≤ 512) (hL : L ≤ 6) : n * L ≤ 3072 := Nat.mul_le_mul hn hL
def cnT (n : Nat) (nx : List (List Int)) (R : List (Nat × Nat)) : List T := tab n fun p => .int .i64 ((R.countP (tg nx p) : Nat) : Int)
@[simp] theorem cnT_len (n : Nat) (nx : List (List Int)) (R : List (Nat × Nat)) : (cnT n nx R).length = n := by simp [cnT]
theorem cnT_at {n p : Nat} {nx : List (List Int)} {R : List (Nat × Nat)} (h : p < n) : (cnT n nx R)[p]? = some (.int .i64 ((R.countP (tg nx p) : Nat) : Int)) := tab_get _ h
theorem cnT_add {n p : Nat} {nx : List (List Int)} {R : List (Nat × Nat)} {e : Nat × Nat} (h : stepR nx e.1 e.2 = p) : (cnT n nx R).set p (.int .i64 ((R.countP (tg nx p) : Nat) + 1 : Int)) = cnT n nx (R ++ [e]) := by
 unfold cnT
 rw [tab_set]
 refine tab_congr (fun i hi => ?_)
 rw [cnt_add, h]
 by_cases e : i = p
 ·subst e; simp
 ·simp [e, show ¬ p = i from fun g => e g.symm]
theorem cnT_sub {n p : Nat} {nx : List (List Int)} {R : List (Nat × Nat)} {e : Nat × Nat} (he : e ∈ R) (h : stepR nx e.1 e.2 = p) (hc : 0 < R.countP (tg nx p)) : (cnT n nx R).set p (.int .i64 ((R.countP (tg nx p) : Nat) - 1 : Int)) = cnT n nx (R.erase e) := by
 unfold cnT
 rw [tab_set]
 refine tab_congr (fun i hi => ?_)
 rw [cnt_erase he, h]
 by_cases e : i = p
 ·subst e
  simp only [if_true]
  congr 1
  omega
 ·simp [e, show ¬ p = i from fun g => e g.symm]
theorem cnT_nil (n : Nat) (nx : List (List Int)) : cnT n nx [] = List.replicate n (.int .i64 0) := by
 unfold cnT
 rw [rep_tab]
 exact tab_congr (fun i hi => by simp)
set_option maxRecDepth 100000 in
set_option maxHeartbeats 16000000 in
theorem mordered_fn {L n s : Nat} {bs : List Bool} {nx : List (List Int)} (h : DfL L n s bs nx) (hL : 1 ≤ L) (hL2 : L ≤ 6) (hn : n ≤ 512) : ∃ res, (∃ b : Bool, (b = true ↔ Acy L n nx) ∧ res = .t 2 (.bool b)) ∧ FnS Tryd.prog 46 [dfT 0 L s bs nx] [] res [] := by
 have hnl := h.nl
 have hbl := h.bl
 have hml := mul_le3 hn hL2
 refine fn_introE Tryd.func46 rfl (by simp [Tryd.f46]) ?_
 rw [show Tryd.f46.ntmps = 104 from rfl, show Tryd.f46.results = #[.tmp 2] from rfl]
 refine awp_seqR fun K hK => ?_
 simp (disch := omega) [ints, rows, scal, wr64, wr8, dfT, bools]
 (repeat' first | apply hK | apply And.intro) <;> try first | (show okH _ _ _ = true; kernel_rfl) | omega | rfl | (simp <;> omega)
 refine awp_seqR fun K hK => ?_
 simp (disch := omega) [ints, rows, scal, wr64, wr8, hnl]
 (repeat' first | apply hK | apply And.intro) <;> try first | (show okH _ _ _ = true; kernel_rfl) | omega | rfl | (simp <;> omega)
 refine awp_seq ?_
 refine awp_seqR fun K hK => ?_
 simp (disch := omega) [ints, rows, scal, wr64, wr8, hnl]
 (repeat' first | apply hK | apply And.intro) <;> try first | (show okH _ _ _ = true; kernel_rfl) | omega | rfl | (simp <;> omega)
 refine awp_block ?_
 refine awp_loop (fun y : Nat × List (Nat × Nat) => mkS [(1, .ptr 0 0 4), (3, .own 1 n), (19, .t 0 (rows nx)), (20, .t 2 (.int .i64 n)), (21, .t 2 (.int .i64 y.1))] [(0, dfO L s bs nx), (1, .row 3 1 2 (cnT n nx y.2))] 2 104 [.any]) (fun y => y.1 ≤ n ∧ EdI L n nx y.2 y.1 0) (fun y => n - y.1) ?_ ?_
 ·refine ⟨(0, []), ⟨by simp, EdI.start⟩, ?_⟩
  refine wk_list [(0, some 0), (1, some 5000000)] rfl ?_ ?_ ?_ ?_
  all_goals try simp [ints, rows, bools, dfT, dfO, cnT_nil, hnl]
 rintro ⟨q, R⟩ ⟨hq, hE⟩
 simp only at hq hE
 refine awp_seqR fun K hK => ?_
 simp (disch := omega) [ints, rows, scal, wr64, wr8]
 (repeat' first | apply hK | apply And.intro) <;> try first | (show okH _ _ _ = true; kernel_rfl) | omega | rfl | (simp <;> omega)
 refine awp_seq ?_
 by_cases hqn : q < n
 ·have hqx : q < nx.length := by omega
  obtain ⟨hrl, -⟩ := h.row nx[q] (by simp)
  refine awp_cond (b := true) (p := 2) (by simp [scal, hqn] <;> omega) ?_
  refine awp_skip ?_
  show awp _ _ _ _
  refine awp_seq ?_
  refine awp_block ?_
  refine awp_seqR fun K hK => ?_
  simp (disch := omega) [ints, rows, scal, wr64, wr8, rows, hqx]
  (repeat' first | apply hK | apply And.intro) <;> try first | (show okH _ _ _ = true; kernel_rfl) | omega | rfl | (simp <;> omega)
  refine awp_seqR fun K hK => ?_
  simp (disch := omega) [ints, rows, scal, wr64, wr8, hrl]
  (repeat' first | apply hK | apply And.intro) <;> try first | (show okH _ _ _ = true; kernel_rfl) | omega | rfl | (simp <;> omega)
  refine awp_block ?_
  refine awp_loop (fun y : Nat × List (Nat × Nat) => mkS [(1, .ptr 0 0 4), (3, .own 1 n), (4, .t 2 (.int .i64 q)), (19, .t 0 (rows nx)), (20, .t 2 (.int .i64 n)), (21, .t 2 (.int .i64 q)), (26, .t 0 (ints nx[q])), (27, .t 2 (.int .i64 L)), (28, .t 2 (.int .i64 y.1))] [(0, dfO L s bs nx), (1, .row 3 1 2 (cnT n nx y.2))] 2 104 [.any]) (fun y => y.1 ≤ L ∧ EdI L n nx y.2 q y.1) (fun y => L - y.1) ?_ ?_
  ·refine ⟨(0, R), ⟨by simp, hE⟩, ?_⟩
   refine wk_list [(0, some 0), (1, some 1)] rfl ?_ ?_ ?_ ?_
   all_goals try simp [ints, rows, bools, dfT, dfO]
  clear hE
  rintro ⟨x, R⟩ ⟨hx, hE⟩
  simp only at hx hE
  refine awp_seqR fun K hK => ?_
  simp (disch := omega) [ints, rows, scal, wr64, wr8]
  (repeat' first | apply hK | apply And.intro) <;> try first | (show okH _ _ _ = true; kernel_rfl) | omega | rfl | (simp <;> omega)
  refine awp_seq ?_
  by_cases hxl : x < L
  ·obtain ⟨s1, s2, s3, s4⟩ := h.rt.step hqn hxl
   have hlen := hE.len
   have hqL : q * L ≤ 512 * 6 := Nat.mul_le_mul (by omega) hL2
   have hcn : R.countP (tg nx (stepR nx q x)) ≤ R.length := List.countP_le_length
   have hg := cnT_at (R := R) (nx := nx) s1
   refine awp_cond (b := true) (p := 2) (by simp [scal, hxl] <;> omega) ?_
   refine awp_skip ?_
   show awp _ _ _ _
   refine awp_seq ?_
   refine awp_block ?_
   refine awp_seqR fun K hK => ?_
   simp (disch := omega) [ints, rows, scal, wr64, wr8, s3, s4]
   (repeat' first | apply hK | apply And.intro) <;> try first | (show okH _ _ _ = true; kernel_rfl) | omega | rfl | (simp <;> omega)
   refine awp_seqR fun K hK => ?_
   simp (disch := omega) [ints, rows, scal, wr64, wr8]
   (repeat' first | apply hK | apply And.intro) <;> try first | (show okH _ _ _ = true; kernel_rfl) | omega | rfl | (simp <;> omega)
   by_cases he : stepR nx q x = q
   ·have hei : (stepR nx q x : Int) = (q : Int) := by omega
    refine awp_cond (b := false) (p := 2) (by simp [scal, hei, he] <;> omega) ?_
    refine awp_skip ?_
    show awp _ _ _ _
    refine awp_R fun K hK => ?_
    simp (disch := omega) [ints, rows, scal, wr64, wr8]
    (repeat' first | apply hK | apply And.intro) <;> try first | (show okH _ _ _ = true; kernel_rfl) | omega | rfl | (simp <;> omega)
    refine ⟨(x + 1, R), ⟨by simp only; omega, hE.loop he⟩, by simp only; omega, ?_⟩
    refine wk_list [(0, some 0), (1, some 1)] rfl ?_ ?_ ?_ ?_
    all_goals try simp [ints, rows, bools, dfT, dfO]
   ·have hei : ¬ (stepR nx q x : Int) = (q : Int) := by omega
    refine awp_cond (b := true) (p := 2) (by simp [scal, hei, he] <;> omega) ?_
    refine awp_R fun K hK => ?_
    simp (disch := omega) [ints, rows, scal, wr64, wr8, hg, s1]
    (repeat' first | apply hK | apply And.intro) <;> try first | (show okH _ _ _ = true; kernel_rfl) | omega | rfl | (simp <;> omega)
    show awp _ _ _ _
    refine awp_R fun K hK => ?_
    simp (disch := omega) [ints, rows, scal, wr64, wr8]
    (repeat' first | apply hK | apply And.intro) <;> try first | (show okH _ _ _ = true; kernel_rfl) | omega | rfl | (simp <;> omega)
    refine ⟨(x + 1, R ++ [(q, x)]), ⟨by simp only; omega, hE.add hqn hxl he⟩, by simp only; omega, ?_⟩
    refine wk_list [(0, some 0), (1, some 1)] rfl ?_ ?_ ?_ ?_
    all_goals try simp [ints, rows, bools, dfT, dfO, cnT_add]
    exact cnT_add rfl
  ·obtain rfl : x = L := by omega
   refine awp_cond (b := false) (p := 2) (by simp [scal] <;> omega) ?_
   refine awp_exit ?_
   show awp _ _ _ _
   refine awp_R fun K hK => ?_
   simp (disch := omega) [ints, rows, scal, wr64, wr8]
   (repeat' first | apply hK | apply And.intro) <;> try first | (show okH _ _ _ = true; kernel_rfl) | omega | rfl | (simp <;> omega)
   refine ⟨(q + 1, R), ⟨by simp only; omega, hE.next⟩, by simp only; omega, ?_⟩
   refine wk_list [(0, some 0), (1, some 1)] rfl ?_ ?_ ?_ ?_
   all_goals try simp [ints, rows, bools, dfT, dfO]
 ·obtain rfl : q = n := by omega
  have hlen := hE.len
  refine awp_cond (b := false) (p := 2) (by simp [scal] <;> omega) ?_
  refine awp_exit ?_
  show awp _ _ _ _
  refine awp_seqR fun K hK => ?_
  simp (disch := omega) [ints, rows, scal, wr64, wr8]
  (repeat' first | apply hK | apply And.intro) <;> try first | (show okH _ _ _ = true; kernel_rfl) | omega | rfl | (simp <;> omega)
  refine awp_seq ?_
  refine awp_seqR fun K hK => ?_
  simp (disch := omega) [ints, rows, scal, wr64, wr8]
  (repeat' first | apply hK | apply And.intro) <;> try first | (show okH _ _ _ = true; kernel_rfl) | omega | rfl | (simp <;> omega)
  refine awp_block ?_
  refine awp_loop (fun k : Nat => mkS [(1, .ptr 0 0 4), (3, .own 1 q), (8, .own 2 (quN nx R k).length), (43, .own 1 q), (44, .t 2 (.int .i64 q)), (45, .t 2 (.int .i64 k))] [(0, dfO L s bs nx), (1, .row 3 1 2 (cnT q nx R)), (2, .row 3 1 2 (natsT (quN nx R k)))] 3 104 [.any]) (fun k => k ≤ q) (fun k => q - k) ?_ ?_
  ·refine ⟨0, by omega, ?_⟩
   refine wk_list [(0, some 0), (1, some 1), (2, none)] rfl ?_ ?_ ?_ ?_
   all_goals try simp [ints, rows, bools, dfT, dfO, quN, natsT]
  intro k hk
  have hql := quN_len nx R k
  have hqs := quN_succ nx R k
  refine awp_seqR fun K hK => ?_
  simp (disch := omega) [ints, rows, scal, wr64, wr8]
  (repeat' first | apply hK | apply And.intro) <;> try first | (show okH _ _ _ = true; kernel_rfl) | omega | rfl | (simp <;> omega)
  refine awp_seq ?_
  by_cases hkq : k < q
  ·have hg := cnT_at (R := R) (nx := nx) hkq
   refine awp_cond (b := true) (p := 2) (by simp [scal, hkq] <;> omega) ?_
   refine awp_skip ?_
   show awp _ _ _ _
   refine awp_seq ?_
   refine awp_block ?_
   refine awp_seqR fun K hK => ?_
   simp (disch := omega) [ints, rows, scal, wr64, wr8, hg]
   (repeat' first | apply hK | apply And.intro) <;> try first | (show okH _ _ _ = true; kernel_rfl) | omega | rfl | (simp <;> omega)
   refine awp_seqR fun K hK => ?_
   simp (disch := omega) [ints, rows, scal, wr64, wr8]
   (repeat' first | apply hK | apply And.intro) <;> try first | (show okH _ _ _ = true; kernel_rfl) | omega | rfl | (simp <;> omega)
   by_cases hz : R.countP (tg nx k) = 0
   ·rw [if_pos hz] at hqs
    refine awp_cond (b := true) (p := 2) (by simp [scal, hz] <;> omega) ?_
    refine awp_R fun K hK => ?_
    simp (disch := omega) [ints, rows, scal, wr64, wr8]
    (repeat' first | apply hK | apply And.intro) <;> try first | (show okH _ _ _ = true; kernel_rfl) | omega | rfl | (simp <;> omega)
    show awp _ _ _ _
    refine awp_R fun K hK => ?_
    simp (disch := omega) [ints, rows, scal, wr64, wr8]
    (repeat' first | apply hK | apply And.intro) <;> try first | (show okH _ _ _ = true; kernel_rfl) | omega | rfl | (simp <;> omega)
    refine ⟨k + 1, by omega, by omega, ?_⟩
    refine wk_list [(0, some 0), (1, some 1), (2, some 2)] rfl ?_ ?_ ?_ ?_
    all_goals try simp [ints, rows, bools, dfT, dfO, hqs, natsT]
   ·rw [if_neg hz] at hqs
    have hzi : ¬ ((R.countP (tg nx k) : Nat) : Int) = 0 := by omega
    refine awp_cond (b := false) (p := 2) (by simp [scal, hzi, hz] <;> omega) ?_
    refine awp_skip ?_
    show awp _ _ _ _
    refine awp_R fun K hK => ?_
    simp (disch := omega) [ints, rows, scal, wr64, wr8]
    (repeat' first | apply hK | apply And.intro) <;> try first | (show okH _ _ _ = true; kernel_rfl) | omega | rfl | (simp <;> omega)
    refine ⟨k + 1, by omega, by omega, ?_⟩
    refine wk_list [(0, some 0), (1, some 1), (2, some 2)] rfl ?_ ?_ ?_ ?_
    all_goals try simp [ints, rows, bools, dfT, dfO, hqs]
  ·obtain rfl : k = q := by omega
   have hKa := KaI.start h hE
   clear hqs hql hE
   refine awp_cond (b := false) (p := 2) (by simp [scal] <;> omega) ?_
   refine awp_exit ?_
   show awp _ _ _ _
   refine awp_seq ?_
   refine awp_seqR fun K hK => ?_
   simp (disch := omega) [ints, rows, scal, wr64, wr8]
   (repeat' first | apply hK | apply And.intro) <;> try first | (show okH _ _ _ = true; kernel_rfl) | omega | rfl | (simp <;> omega)
   refine awp_block ?_
   refine awp_loop (fun y : Nat × List Nat × List (Nat × Nat) => mkS [(1, .ptr 0 0 4), (3, .own 1 k), (8, .own 2 y.2.1.length), (11, .t 2 (.int .i64 y.1))] [(0, dfO L s bs nx), (1, .row 3 1 2 (cnT k nx y.2.2)), (2, .row 3 1 2 (natsT y.2.1))] 3 104 [.any]) (fun y => y.1 ≤ y.2.1.length ∧ KaI L k nx y.2.1 y.2.2 y.1 0) (fun y => k - y.1) ?_ ?_
   ·refine ⟨(0, quN nx R k, R), ⟨by simp, hKa⟩, ?_⟩
    refine wk_list [(0, some 0), (1, some 1), (2, some 2)] rfl ?_ ?_ ?_ ?_
    all_goals try simp [ints, rows, bools, dfT, dfO]
   clear hKa hlen
   rintro ⟨i, Q, R⟩ ⟨hi, hKa⟩
   simp only at hi hKa
   have hle := hKa.le
   refine awp_seq ?_
   refine awp_seqR fun K hK => ?_
   simp (disch := omega) [ints, rows, scal, wr64, wr8]
   (repeat' first | apply hK | apply And.intro) <;> try first | (show okH _ _ _ = true; kernel_rfl) | omega | rfl | (simp <;> omega)
   by_cases hil : i < Q.length
   ·obtain ⟨v, hv⟩ : ∃ v, Q[i]? = some v := ⟨_, List.getElem?_eq_getElem hil⟩
    have hvm := hKa.ql v (List.mem_of_getElem? hv)
    have hvx : v < nx.length := by omega
    obtain ⟨hrl, -⟩ := h.row nx[v] (by simp)
    have hve : Q[i] = v := (List.getElem?_eq_some_iff.1 hv).2
    refine awp_cond (b := true) (p := 2) (by simp [scal, hil] <;> omega) ?_
    refine awp_skip ?_
    show awp _ _ _ _
    refine awp_seq ?_
    refine awp_block ?_
    refine awp_seqD (by kernel_rfl) (fun K hK => ?_)
    simp (disch := omega) [ints, rows, scal, wr64, wr8, dfO, natsT, hil, hve, rows, hvx, hrl]
    (repeat' first | apply hK | apply And.intro) <;> try first | (show chkD _ _ = true; kernel_rfl) | (show okH _ _ _ = true; kernel_rfl) | omega | rfl | (simp <;> omega)
    refine awp_block ?_
    refine awp_loop (fun y : Nat × List Nat × List (Nat × Nat) => mkS [(1, .ptr 0 0 4), (3, .own 1 k), (8, .own 2 y.2.1.length), (11, .t 2 (.int .i64 i)), (70, .t 0 (ints nx[v])), (71, .t 2 (.int .i64 L)), (72, .t 2 (.int .i64 y.1))] [(0, dfO L s bs nx), (1, .row 3 1 2 (cnT k nx y.2.2)), (2, .row 3 1 2 (natsT y.2.1))] 3 104 [.any]) (fun y => y.1 ≤ L ∧ y.2.1[i]? = some v ∧ KaI L k nx y.2.1 y.2.2 i y.1) (fun y => L - y.1) ?_ ?_
    ·refine ⟨(0, Q, R), ⟨by simp, hv, hKa⟩, ?_⟩
     refine wk_list [(0, some 0), (1, some 1), (2, some 2)] rfl ?_ ?_ ?_ ?_
     all_goals try simp [ints, rows, bools, dfT, dfO, natsT]
    clear hKa hv hve hi hle hil
    rintro ⟨x, Q, R⟩ ⟨hx, hv, hKa⟩
    simp only at hx hv hKa
    have hle := hKa.le
    have hil := (List.getElem?_eq_some_iff.1 hv).1
    have hvg := natsT_at hv
    refine awp_seqR fun K hK => ?_
    simp (disch := omega) [ints, rows, scal, wr64, wr8]
    (repeat' first | apply hK | apply And.intro) <;> try first | (show okH _ _ _ = true; kernel_rfl) | omega | rfl | (simp <;> omega)
    refine awp_seq ?_
    by_cases hxl : x < L
    ·obtain ⟨s1, s2, s3, s4⟩ := h.rt.step hvm hxl
     have hlen := hKa.len
     have hcn : R.countP (tg nx (stepR nx v x)) ≤ R.length := List.countP_le_length
     have hg := cnT_at (R := R) (nx := nx) s1
     refine awp_cond (b := true) (p := 2) (by simp [scal, hxl] <;> omega) ?_
     refine awp_skip ?_
     show awp _ _ _ _
     refine awp_seq ?_
     refine awp_block ?_
     refine awp_seqR fun K hK => ?_
     simp (disch := omega) [ints, rows, scal, wr64, wr8, s3, s4]
     (repeat' first | apply hK | apply And.intro) <;> try first | (show okH _ _ _ = true; kernel_rfl) | omega | rfl | (simp <;> omega)
     refine awp_seq ?_
     refine awp_seqR fun K hK => ?_
     simp (disch := omega) [ints, rows, scal, wr64, wr8, hvg]
     (repeat' first | apply hK | apply And.intro) <;> try first | (show okH _ _ _ = true; kernel_rfl) | omega | rfl | (simp <;> omega)
     by_cases he : stepR nx v x = v
     ·have hei : (stepR nx v x : Int) = (v : Int) := by omega
      refine awp_cond (b := true) (p := 2) (by simp [scal, hei, he] <;> omega) ?_
      refine awp_exit ?_
      show awp _ _ _ _
      refine awp_R fun K hK => ?_
      simp (disch := omega) [ints, rows, scal, wr64, wr8]
      (repeat' first | apply hK | apply And.intro) <;> try first | (show okH _ _ _ = true; kernel_rfl) | omega | rfl | (simp <;> omega)
      refine ⟨(x + 1, Q, R), ⟨by simp only; omega, hv, hKa.loop hv he⟩, by simp only; omega, ?_⟩
      refine wk_list [(0, some 0), (1, some 1), (2, some 2)] rfl ?_ ?_ ?_ ?_
      all_goals try simp [ints, rows, bools, dfT, dfO]
     ·have hei : ¬ (stepR nx v x : Int) = (v : Int) := by omega
      have hpos := hKa.pos hv hxl he
      have hmem := hKa.mem hv hxl he
      have hset := cnT_sub (n := k) hmem rfl hpos
      have hg2 : (cnT k nx (R.erase (v, x)))[stepR nx v x]? = some (.int .i64 ((R.countP (tg nx (stepR nx v x)) : Nat) - 1 : Int)) := by
       rw [← hset, List.getElem?_set_self (by simp; exact s1)]
      refine awp_cond (b := false) (p := 2) (by simp [scal, hei, he] <;> omega) ?_
      refine awp_skip ?_
      show awp _ _ _ _
      refine awp_seqR fun K hK => ?_
      simp (disch := omega) [ints, rows, scal, wr64, wr8, hg, s1, hset]
      (repeat' first | apply hK | apply And.intro) <;> try first | (show okH _ _ _ = true; kernel_rfl) | omega | rfl | (simp <;> omega)
      refine awp_seqR fun K hK => ?_
      simp (disch := omega) [ints, rows, scal, wr64, wr8, hg2]
      (repeat' first | apply hK | apply And.intro) <;> try first | (show okH _ _ _ = true; kernel_rfl) | omega | rfl | (simp <;> omega)
      by_cases hc : R.countP (tg nx (stepR nx v x)) = 1
      ·have hci : ((R.countP (tg nx (stepR nx v x)) : Nat) : Int) - 1 = 0 := by omega
       refine awp_cond (b := true) (p := 2) (by simp [scal, hci, hc] <;> omega) ?_
       refine awp_R fun K hK => ?_
       simp (disch := omega) [ints, rows, scal, wr64, wr8]
       (repeat' first | apply hK | apply And.intro) <;> try first | (show okH _ _ _ = true; kernel_rfl) | omega | rfl | (simp <;> omega)
       show awp _ _ _ _
       refine awp_R fun K hK => ?_
       simp (disch := omega) [ints, rows, scal, wr64, wr8]
       (repeat' first | apply hK | apply And.intro) <;> try first | (show okH _ _ _ = true; kernel_rfl) | omega | rfl | (simp <;> omega)
       refine ⟨(x + 1, Q ++ [stepR nx v x], R.erase (v, x)), ⟨by simp only; omega, by simp only; rw [List.getElem?_append_left hil]; exact hv, hKa.push s1 hv hxl he hc⟩, by simp only; omega, ?_⟩
       refine wk_list [(0, some 0), (1, some 1), (2, some 2)] rfl ?_ ?_ ?_ ?_
       all_goals try simp [ints, rows, bools, dfT, dfO, natsT]
      ·have hci : ¬ ((R.countP (tg nx (stepR nx v x)) : Nat) : Int) - 1 = 0 := by omega
       refine awp_cond (b := false) (p := 2) (by simp [scal, hci, hc] <;> omega) ?_
       refine awp_skip ?_
       show awp _ _ _ _
       refine awp_R fun K hK => ?_
       simp (disch := omega) [ints, rows, scal, wr64, wr8]
       (repeat' first | apply hK | apply And.intro) <;> try first | (show okH _ _ _ = true; kernel_rfl) | omega | rfl | (simp <;> omega)
       refine ⟨(x + 1, Q, R.erase (v, x)), ⟨by simp only; omega, hv, hKa.keep hv hxl he hc⟩, by simp only; omega, ?_⟩
       refine wk_list [(0, some 0), (1, some 1), (2, some 2)] rfl ?_ ?_ ?_ ?_
       all_goals try simp [ints, rows, bools, dfT, dfO]
    ·obtain rfl : x = L := by omega
     refine awp_cond (b := false) (p := 2) (by simp [scal] <;> omega) ?_
     refine awp_exit ?_
     show awp _ _ _ _
     refine awp_R fun K hK => ?_
     simp (disch := omega) [ints, rows, scal, wr64, wr8]
     (repeat' first | apply hK | apply And.intro) <;> try first | (show okH _ _ _ = true; kernel_rfl) | omega | rfl | (simp <;> omega)
     refine ⟨(i + 1, Q, R), ⟨by simp only; omega, hKa.next⟩, by simp only; omega, ?_⟩
     refine wk_list [(0, some 0), (1, some 1), (2, some 2)] rfl ?_ ?_ ?_ ?_
     all_goals try simp [ints, rows, bools, dfT, dfO]
   ·obtain rfl : i = Q.length := by omega
    have hfin := hKa.fin h
    refine awp_cond (b := false) (p := 2) (by simp [scal] <;> omega) ?_
    refine awp_exit ?_
    show awp _ _ _ _
    by_cases hQ : Q.length = k
    ·refine awp_seqR fun K hK => ?_
     simp (disch := omega) [ints, rows, scal, wr64, wr8, hnl, hQ]
     (repeat' first | apply hK | apply And.intro) <;> try first | (show okH _ _ _ = true; kernel_rfl) | omega | rfl | (simp <;> omega)
     refine awp_ret ?_
     refine ⟨_, ⟨true, by simp [← hfin, hQ], rfl⟩, ?_⟩
     refine ⟨⟨.inr rfl, _, [], rfl, trivial, trivial, by simp [dfT, natsT, hnl, hQ], ?_⟩, by simp [dfT, natsT, hnl, hQ]⟩
     simp [dfT, natsT, hnl, hQ]
    ·have hQi : ¬ (Q.length : Int) = (k : Int) := by omega
     refine awp_seqR fun K hK => ?_
     simp (disch := omega) [ints, rows, scal, wr64, wr8, hnl, hQ, hQi]
     (repeat' first | apply hK | apply And.intro) <;> try first | (show okH _ _ _ = true; kernel_rfl) | omega | rfl | (simp <;> omega)
     refine awp_ret ?_
     refine ⟨_, ⟨false, by simp [← hfin, hQ], rfl⟩, ?_⟩
     refine ⟨⟨.inr rfl, _, [], rfl, trivial, trivial, by simp [dfT, natsT, hnl, hQi], ?_⟩, by simp [dfT, natsT, hnl, hQi]⟩
     simp [dfT, natsT, hnl, hQi]
end Go.Proofs.YtnffigeofdagfaaDoor.M
