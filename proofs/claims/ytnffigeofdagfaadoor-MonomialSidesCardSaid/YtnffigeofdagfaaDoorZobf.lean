/-
  Walks in my logic: Ordered (semigroupref35), Ordered (monomial), of valid automata.
-/
import Derived.Test.YtnffigeofdagfaaDoorZobe
import Derived.Test.YtnffigeofdagfaaDoorZoar
import Derived.Test.YtnffigeofdagfaaDoorZoaw
namespace Go.Proofs.YtnffigeofdagfaaDoor.M
open Go.RowKit
set_option linter.unusedVariables false
attribute [local simp] KL_ap KD_ap awpL_nil awpL_cons awpD_nil awpD_cons awpOp awpOpD wrE gd aop aBuiltin aNil aMin ASt.eval AV.ofV dstOk ASt.app Eff.heap dels upd_b aLoad aStore aField aFieldV aIndexAddr aIndex aSlice aSliceO aLen aBin iB sB aUn aConv aAlloc aBox aBuild afill avCells AV.leaf setR aBuildSlice frz frzL isOwn vecOf tsOf aMake srcOf aAppend aMkMap aMapUpd aLookup oint cut putL AObj.cnt mkS envOf_nil envOf_cons heapOf_nil heapOf_cons argS Nat.blt_eq callS outV outVs outO heap2 addL delL List.getElem?_cons_zero okO inPs inP wkE wkP wkPs wkH wkO keysNd unm mpOf_nil mpOf_cons ghA ghA1
set_option linter.unusedSimpArgs false

def dfO2 (L s : Nat) (bs : List Bool) (nxt : List (List Int)) : AObj := .box 32 [.t 2 (.int .i64 L), .t 2 (.int .i64 s), .t 2 (bools bs), .t 2 (rows nxt)]
def Cyc (L : Nat) (nx : List (List Int)) (q : Nat) : Prop := ∃ x w, x < L ∧ (∀ a ∈ w, a < L) ∧ stepR nx q x ≠ q ∧ walkR nx (stepR nx q x) w = q
theorem acy_iff {L m : Nat} {nx : List (List Int)} : Acy L m nx ↔ ∀ q, q < m → ¬ Cyc L nx q := by
 constructor
 ·rintro h q hq ⟨x, w, h1, h2, h3, h4⟩
  exact h q x w hq h1 h2 h3 h4
 ·intro h q x w hq h1 h2 h3 h4
  exact h q hq ⟨x, w, h1, h2, h3, h4⟩
def metT (m : Nat) (met : Nat → Bool) : List T := tab m fun j => .bool (met j)
@[simp] theorem metT_len (m : Nat) (met : Nat → Bool) : (metT m met).length = m := by simp [metT]
theorem metT_at {m j : Nat} {met : Nat → Bool} (h : j < m) : (metT m met)[j]? = some (.bool (met j)) := tab_get _ h
theorem metT_set (m p : Nat) (met : Nat → Bool) : (metT m met).set p (.bool true) = metT m (fun j => if j = p then true else met j) := by
 unfold metT
 rw [tab_set]
 refine tab_congr (fun j hj => ?_)
 by_cases e : j = p <;> simp [e]
theorem metT_zero (m : Nat) : metT m (fun _ => false) = List.replicate m (.bool false) := by
 unfold metT
 rw [rep_tab]
set_option maxRecDepth 100000 in
set_option maxHeartbeats 16000000 in
theorem rOrdered_fn {L n s : Nat} {bs : List Bool} {nxt : List (List Int)} (h : DfL L n s bs nxt) (hL : 1 ≤ L) (hL2 : L ≤ 6) (hn : n ≤ 512) : ∃ res, (∃ b m bs' nx', MiX L n s bs nxt m bs' nx' ∧ (b = true ↔ Acy L m nx') ∧ res = .t 2 (.bool b)) ∧ FnS Tryd.prog 23 [dfT 0 L s bs nxt] [] res [] := by
 obtain ⟨_, ⟨m, b2, nx, hX, rfl⟩, hmin⟩ := minimalX_fn h hL hL2 hn
 have hD := hX.mn.df
 have hmn := hX.le
 have hnl := hD.nl
 have hbl := hD.bl
 refine fn_introE Tryd.func23 rfl (by simp [Tryd.f23]) ?_
 rw [show Tryd.f23.ntmps = 92 from rfl, show Tryd.f23.results = #[.tmp 2] from rfl]
 refine awp_seqR fun K hK => ?_
 simp (disch := omega) [ints, rows, scal, wr64, wr8, dfT, bools]
 (repeat' first | apply hK | apply And.intro) <;> try first | (show okH _ _ _ = true; kernel_rfl) | omega | rfl | (simp <;> omega)
 refine awp_seq ?_
 refine awp_seqR fun K hK => ?_
 simp (disch := omega) [ints, rows, scal, wr64, wr8]
 (repeat' apply And.intro)
 all_goals (try omega)
 refine call_rule (caps := []) (validate07_fn h hL hL2 hn) [] [] 2 rfl rfl rfl rfl (by kernel_rfl) (by simp) ?_ trivial trivial rfl trivial trivial (by simp) ?_
 ·simp [scal, rows, ints, dfT, bools]
 simp (disch := omega) [ints, rows, scal, wr64, wr8]
 (repeat' first | apply hK | apply And.intro) <;> try first | (show okH _ _ _ = true; kernel_rfl) | omega | rfl | (simp <;> omega)
 refine awp_cond (b := false) (p := 2) (by simp [scal] <;> omega) ?_
 refine awp_skip ?_
 show awp _ _ _ _
 refine awp_seqR fun K hK => ?_
 simp (disch := omega) [ints, rows, scal, wr64, wr8]
 (repeat' apply And.intro)
 all_goals (try omega)
 refine call_rule (caps := []) (hmin) [] [] 2 rfl rfl rfl rfl (by kernel_rfl) (by simp) ?_ trivial trivial rfl trivial trivial (by simp) ?_
 ·simp [scal, rows, ints, dfT, bools]
 simp (disch := omega) [ints, rows, scal, wr64, wr8, dfT, bools]
 (repeat' first | apply hK | apply And.intro) <;> try first | (show okH _ _ _ = true; kernel_rfl) | omega | rfl | (simp <;> omega)
 refine awp_seq ?_
 refine awp_seqR fun K hK => ?_
 simp (disch := omega) [ints, rows, scal, wr64, wr8, hbl]
 (repeat' first | apply hK | apply And.intro) <;> try first | (show okH _ _ _ = true; kernel_rfl) | omega | rfl | (simp <;> omega)
 refine awp_block ?_
 refine awp_loop (fun q : Nat => mkS [(3, .ptr 1 0 4), (19, .t 2 (.int .i64 m)), (20, .t 2 (.int .i64 q))] [(1, dfO2 L 0 b2 nx)] 2 92 [.any]) (fun q => q ≤ m ∧ ∀ q', q' < q → ¬ Cyc L nx q') (fun q => m - q) ?_ ?_
 ·refine ⟨0, ⟨by omega, fun q' hq' => by omega⟩, ?_⟩
  refine wk_list [(1, some 7000000)] rfl ?_ ?_ ?_ ?_
  all_goals try simp [ints, rows, bools, dfT, dfO2, hbl]
 rintro q ⟨hq, hno⟩
 refine awp_seqR fun K hK => ?_
 simp (disch := omega) [ints, rows, scal, wr64, wr8]
 (repeat' first | apply hK | apply And.intro) <;> try first | (show okH _ _ _ = true; kernel_rfl) | omega | rfl | (simp <;> omega)
 refine awp_seq ?_
 by_cases hqm : q < m
 ·have hqx : q < nx.length := by omega
  obtain ⟨hrl, -⟩ := hD.row nx[q] (by simp)
  refine awp_cond (b := true) (p := 2) (by simp [scal, hqm] <;> omega) ?_
  refine awp_skip ?_
  show awp _ _ _ _
  refine awp_seq ?_
  refine awp_block ?_
  refine awp_seqR fun K hK => ?_
  simp (disch := omega) [ints, rows, scal, wr64, wr8]
  (repeat' first | apply hK | apply And.intro) <;> try first | (show okH _ _ _ = true; kernel_rfl) | omega | rfl | (simp <;> omega)
  refine awp_seqR fun K hK => ?_
  simp (disch := omega) [ints, rows, scal, wr64, wr8, dfO2, bools, hbl]
  (repeat' first | apply hK | apply And.intro) <;> try first | (show okH _ _ _ = true; kernel_rfl) | omega | rfl | (simp <;> omega)
  refine awp_seqR fun K hK => ?_
  simp (disch := omega) [ints, rows, scal, wr64, wr8]
  (repeat' first | apply hK | apply And.intro) <;> try first | (show okH _ _ _ = true; kernel_rfl) | omega | rfl | (simp <;> omega)
  refine awp_seq ?_
  refine awp_seqR fun K hK => ?_
  simp (disch := omega) [ints, rows, scal, wr64, wr8, dfO2, rows, hqx, hrl]
  (repeat' first | apply hK | apply And.intro) <;> try first | (show okH _ _ _ = true; kernel_rfl) | omega | rfl | (simp <;> omega)
  refine awp_block ?_
  refine awp_loop (fun y : Nat × List Nat × (Nat → Bool) => mkS [(3, .ptr 1 0 4), (4, .t 2 (.int .i64 q)), (5, .own 2 m), (6, .own 3 y.2.1.length), (19, .t 2 (.int .i64 m)), (20, .t 2 (.int .i64 q)), (31, .t 2 (ints nx[q])), (32, .t 2 (.int .i64 L)), (33, .t 2 (.int .i64 y.1))] [(1, dfO2 L 0 b2 nx), (2, .row 4 1 2 (metT m y.2.2)), (3, .row 3 1 2 (natsT y.2.1))] 4 92 [.any]) (fun y => y.1 ≤ L ∧ SeB L m nx q y.2.1 y.2.2 y.1) (fun y => L - y.1) ?_ ?_
  ·refine ⟨(0, [], fun _ => false), ⟨by simp, SeB.start⟩, ?_⟩
   refine wk_list [(1, some 1), (2, some 6000002), (3, none)] rfl ?_ ?_ ?_ ?_
   all_goals try simp [ints, rows, bools, dfT, dfO2, hbl, metT_zero, natsT]
  rintro ⟨x, l, met⟩ ⟨hx, hS⟩
  simp only at hx hS
  have hle := hS.le
  refine awp_seqR fun K hK => ?_
  simp (disch := omega) [ints, rows, scal, wr64, wr8]
  (repeat' first | apply hK | apply And.intro) <;> try first | (show okH _ _ _ = true; kernel_rfl) | omega | rfl | (simp <;> omega)
  refine awp_seq ?_
  by_cases hxl : x < L
  ·obtain ⟨s1, s2, s3, s4⟩ := hD.rt.step hqm hxl
   have hg := metT_at (met := met) s1
   refine awp_cond (b := true) (p := 2) (by simp [scal, hxl] <;> omega) ?_
   refine awp_skip ?_
   show awp _ _ _ _
   refine awp_seq ?_
   refine awp_block ?_
   refine awp_seqR fun K hK => ?_
   simp (disch := omega) [ints, rows, scal, wr64, wr8, s3, s4]
   (repeat' first | apply hK | apply And.intro) <;> try first | (show okH _ _ _ = true; kernel_rfl) | omega | rfl | (simp <;> omega)
   by_cases he : stepR nx q x = q
   ·have hei : (stepR nx q x : Int) = (q : Int) := by omega
    have heb : ((stepR nx q x : Int) != (q : Int)) = false := by simp [he]
    refine awp_seqR fun K hK => ?_
    simp (disch := omega) [ints, rows, scal, wr64, wr8, heb]
    (repeat' first | apply hK | apply And.intro) <;> try first | (show okH _ _ _ = true; kernel_rfl) | omega | rfl | (simp <;> omega)
    refine awp_cond (b := false) (p := 2) (by simp [scal, hei, he] <;> omega) ?_
    refine awp_skip ?_
    show awp _ _ _ _
    refine awp_R fun K hK => ?_
    simp (disch := omega) [ints, rows, scal, wr64, wr8]
    (repeat' first | apply hK | apply And.intro) <;> try first | (show okH _ _ _ = true; kernel_rfl) | omega | rfl | (simp <;> omega)
    refine ⟨(x + 1, l, met), ⟨by simp only; omega, hS.old (.inl he)⟩, by simp only; omega, ?_⟩
    refine wk_list [(1, some 1), (2, some 2), (3, some 3)] rfl ?_ ?_ ?_ ?_
    all_goals try simp [ints, rows, bools, dfT, dfO2]
   ·have hei : ¬ (stepR nx q x : Int) = (q : Int) := by omega
    have heb : ((stepR nx q x : Int) != (q : Int)) = true := bne_iff_ne.2 hei
    cases hm : met (stepR nx q x) with
    | true =>
     rw [hm] at hg
     refine awp_seqR fun K hK => ?_
     simp (disch := omega) [ints, rows, scal, wr64, wr8, heb, hg, s1]
     (repeat' first | apply hK | apply And.intro) <;> try first | (show okH _ _ _ = true; kernel_rfl) | omega | rfl | (simp <;> omega)
     refine awp_cond (b := false) (p := 2) (by simp [scal, hei, he] <;> omega) ?_
     refine awp_skip ?_
     show awp _ _ _ _
     refine awp_R fun K hK => ?_
     simp (disch := omega) [ints, rows, scal, wr64, wr8]
     (repeat' first | apply hK | apply And.intro) <;> try first | (show okH _ _ _ = true; kernel_rfl) | omega | rfl | (simp <;> omega)
     refine ⟨(x + 1, l, met), ⟨by simp only; omega, hS.old (.inr ⟨s1, hm⟩)⟩, by simp only; omega, ?_⟩
     refine wk_list [(1, some 1), (2, some 2), (3, some 3)] rfl ?_ ?_ ?_ ?_
     all_goals try simp [ints, rows, bools, dfT, dfO2]
    | false =>
     rw [hm] at hg
     refine awp_seqR fun K hK => ?_
     simp (disch := omega) [ints, rows, scal, wr64, wr8, heb, hg, s1]
     (repeat' first | apply hK | apply And.intro) <;> try first | (show okH _ _ _ = true; kernel_rfl) | omega | rfl | (simp <;> omega)
     refine awp_cond (b := true) (p := 2) (by simp [scal, hei, he] <;> omega) ?_
     refine awp_seqR fun K hK => ?_
     simp (disch := omega) [ints, rows, scal, wr64, wr8, s1, metT_set]
     (repeat' first | apply hK | apply And.intro) <;> try first | (show okH _ _ _ = true; kernel_rfl) | omega | rfl | (simp <;> omega)
     refine awp_R fun K hK => ?_
     simp (disch := omega) [ints, rows, scal, wr64, wr8]
     (repeat' first | apply hK | apply And.intro) <;> try first | (show okH _ _ _ = true; kernel_rfl) | omega | rfl | (simp <;> omega)
     show awp _ _ _ _
     refine awp_R fun K hK => ?_
     simp (disch := omega) [ints, rows, scal, wr64, wr8]
     (repeat' first | apply hK | apply And.intro) <;> try first | (show okH _ _ _ = true; kernel_rfl) | omega | rfl | (simp <;> omega)
     refine ⟨(x + 1, l ++ [stepR nx q x], fun j => if j = stepR nx q x then true else met j), ⟨by simp only; omega, hS.add hxl he s1 hm⟩, by simp only; omega, ?_⟩
     refine wk_list [(1, some 1), (2, some 2), (3, some 3)] rfl ?_ ?_ ?_ ?_
     all_goals try simp [ints, rows, bools, dfT, dfO2, natsT]
  ·obtain rfl : x = L := by omega
   have hS2 := hS.next
   clear hS
   refine awp_cond (b := false) (p := 2) (by simp [scal] <;> omega) ?_
   refine awp_exit ?_
   show awp _ _ _ _
   refine awp_seq ?_
   refine awp_seqR fun K hK => ?_
   simp (disch := omega) [ints, rows, scal, wr64, wr8]
   (repeat' first | apply hK | apply And.intro) <;> try first | (show okH _ _ _ = true; kernel_rfl) | omega | rfl | (simp <;> omega)
   refine awp_block ?_
   refine awp_loop (fun y : Nat × List Nat × (Nat → Bool) => mkS [(3, .ptr 1 0 4), (4, .t 2 (.int .i64 q)), (5, .own 2 m), (6, .own 3 y.2.1.length), (9, .t 2 (.int .i64 y.1)), (19, .t 2 (.int .i64 m)), (20, .t 2 (.int .i64 q))] [(1, dfO2 x 0 b2 nx), (2, .row 4 1 2 (metT m y.2.2)), (3, .row 3 1 2 (natsT y.2.1))] 4 92 [.any]) (fun y => y.1 ≤ y.2.1.length ∧ SeI x m nx q y.2.1 y.2.2 y.1 0) (fun y => m - y.1) ?_ ?_
   ·refine ⟨(0, l, met), ⟨by simp, hS2⟩, ?_⟩
    refine wk_list [(1, some 1), (2, some 2), (3, some 3)] rfl ?_ ?_ ?_ ?_
    all_goals try simp [ints, rows, bools, dfT, dfO2]
   clear hS2 hle
   rintro ⟨i, l, met⟩ ⟨hi, hS⟩
   simp only at hi hS
   have hle := hS.le
   refine awp_seq ?_
   refine awp_seqR fun K hK => ?_
   simp (disch := omega) [ints, rows, scal, wr64, wr8]
   (repeat' first | apply hK | apply And.intro) <;> try first | (show okH _ _ _ = true; kernel_rfl) | omega | rfl | (simp <;> omega)
   by_cases hil : i < l.length
   ·obtain ⟨v, hv⟩ : ∃ v, l[i]? = some v := ⟨_, List.getElem?_eq_getElem hil⟩
    have hvm := hS.lt v (List.mem_of_getElem? hv)
    have hvx : v < nx.length := by omega
    obtain ⟨hrl2, -⟩ := hD.row nx[v] (by simp)
    have hve : l[i] = v := (List.getElem?_eq_some_iff.1 hv).2
    refine awp_cond (b := true) (p := 2) (by simp [scal, hil] <;> omega) ?_
    refine awp_skip ?_
    show awp _ _ _ _
    refine awp_seq ?_
    refine awp_block ?_
    refine awp_seqD (by kernel_rfl) (fun K hK => ?_)
    simp (disch := omega) [ints, rows, scal, wr64, wr8, dfO2, natsT, hil, hve, rows, hvx, hrl2]
    (repeat' first | apply hK | apply And.intro) <;> try first | (show chkD _ _ = true; kernel_rfl) | (show okH _ _ _ = true; kernel_rfl) | omega | rfl | (simp <;> omega)
    refine awp_block ?_
    refine awp_loop (fun y : Nat × List Nat × (Nat → Bool) => mkS [(3, .ptr 1 0 4), (4, .t 2 (.int .i64 q)), (5, .own 2 m), (6, .own 3 y.2.1.length), (9, .t 2 (.int .i64 i)), (19, .t 2 (.int .i64 m)), (20, .t 2 (.int .i64 q)), (68, .t 2 (ints nx[v])), (69, .t 2 (.int .i64 x)), (70, .t 2 (.int .i64 y.1))] [(1, dfO2 x 0 b2 nx), (2, .row 4 1 2 (metT m y.2.2)), (3, .row 3 1 2 (natsT y.2.1))] 4 92 [.any]) (fun y => y.1 ≤ x ∧ y.2.1[i]? = some v ∧ SeI x m nx q y.2.1 y.2.2 i y.1) (fun y => x - y.1) ?_ ?_
    ·refine ⟨(0, l, met), ⟨by simp, hv, hS⟩, ?_⟩
     refine wk_list [(1, some 1), (2, some 2), (3, some 3)] rfl ?_ ?_ ?_ ?_
     all_goals try simp [ints, rows, bools, dfT, dfO2, natsT]
    clear hS hv hve hi hle hil
    rintro ⟨z, l, met⟩ ⟨hz, hv, hS⟩
    simp only at hz hv hS
    have hle := hS.le
    have hil := (List.getElem?_eq_some_iff.1 hv).1
    refine awp_seqR fun K hK => ?_
    simp (disch := omega) [ints, rows, scal, wr64, wr8]
    (repeat' first | apply hK | apply And.intro) <;> try first | (show okH _ _ _ = true; kernel_rfl) | omega | rfl | (simp <;> omega)
    refine awp_seq ?_
    by_cases hzl : z < x
    ·obtain ⟨s1, s2, s3, s4⟩ := hD.rt.step hvm hzl
     have hg := metT_at (met := met) s1
     refine awp_cond (b := true) (p := 2) (by simp [scal, hzl] <;> omega) ?_
     refine awp_skip ?_
     show awp _ _ _ _
     refine awp_seq ?_
     refine awp_block ?_
     refine awp_seqR fun K hK => ?_
     simp (disch := omega) [ints, rows, scal, wr64, wr8, s3, s4]
     (repeat' first | apply hK | apply And.intro) <;> try first | (show okH _ _ _ = true; kernel_rfl) | omega | rfl | (simp <;> omega)
     cases hm : met (stepR nx v z) with
     | true =>
      rw [hm] at hg
      refine awp_seqR fun K hK => ?_
      simp (disch := omega) [ints, rows, scal, wr64, wr8, hg, s1]
      (repeat' first | apply hK | apply And.intro) <;> try first | (show okH _ _ _ = true; kernel_rfl) | omega | rfl | (simp <;> omega)
      refine awp_cond (b := false) (p := 2) (by simp [scal] <;> omega) ?_
      refine awp_skip ?_
      show awp _ _ _ _
      refine awp_R fun K hK => ?_
      simp (disch := omega) [ints, rows, scal, wr64, wr8]
      (repeat' first | apply hK | apply And.intro) <;> try first | (show okH _ _ _ = true; kernel_rfl) | omega | rfl | (simp <;> omega)
      refine ⟨(z + 1, l, met), ⟨by simp only; omega, hv, hS.old hv s1 hm⟩, by simp only; omega, ?_⟩
      refine wk_list [(1, some 1), (2, some 2), (3, some 3)] rfl ?_ ?_ ?_ ?_
      all_goals try simp [ints, rows, bools, dfT, dfO2]
     | false =>
      rw [hm] at hg
      refine awp_seqR fun K hK => ?_
      simp (disch := omega) [ints, rows, scal, wr64, wr8, hg, s1]
      (repeat' first | apply hK | apply And.intro) <;> try first | (show okH _ _ _ = true; kernel_rfl) | omega | rfl | (simp <;> omega)
      refine awp_cond (b := true) (p := 2) (by simp [scal] <;> omega) ?_
      refine awp_seqR fun K hK => ?_
      simp (disch := omega) [ints, rows, scal, wr64, wr8, s1, metT_set]
      (repeat' first | apply hK | apply And.intro) <;> try first | (show okH _ _ _ = true; kernel_rfl) | omega | rfl | (simp <;> omega)
      refine awp_R fun K hK => ?_
      simp (disch := omega) [ints, rows, scal, wr64, wr8]
      (repeat' first | apply hK | apply And.intro) <;> try first | (show okH _ _ _ = true; kernel_rfl) | omega | rfl | (simp <;> omega)
      show awp _ _ _ _
      refine awp_R fun K hK => ?_
      simp (disch := omega) [ints, rows, scal, wr64, wr8]
      (repeat' first | apply hK | apply And.intro) <;> try first | (show okH _ _ _ = true; kernel_rfl) | omega | rfl | (simp <;> omega)
      refine ⟨(z + 1, l ++ [stepR nx v z], fun j => if j = stepR nx v z then true else met j), ⟨by simp only; omega, by simp only; rw [List.getElem?_append_left hil]; exact hv, hS.add hv hzl s1 hm⟩, by simp only; omega, ?_⟩
      refine wk_list [(1, some 1), (2, some 2), (3, some 3)] rfl ?_ ?_ ?_ ?_
      all_goals try simp [ints, rows, bools, dfT, dfO2, natsT]
    ·obtain rfl : z = x := by omega
     refine awp_cond (b := false) (p := 2) (by simp [scal] <;> omega) ?_
     refine awp_exit ?_
     show awp _ _ _ _
     refine awp_R fun K hK => ?_
     simp (disch := omega) [ints, rows, scal, wr64, wr8]
     (repeat' first | apply hK | apply And.intro) <;> try first | (show okH _ _ _ = true; kernel_rfl) | omega | rfl | (simp <;> omega)
     refine ⟨(i + 1, l, met), ⟨by simp only; omega, hS.next⟩, by simp only; omega, ?_⟩
     refine wk_list [(1, some 1), (2, some 2), (3, some 3)] rfl ?_ ?_ ?_ ?_
     all_goals try simp [ints, rows, bools, dfT, dfO2]
   ·obtain rfl : i = l.length := by omega
    have hfin := hS.fin hqm
    have hg := metT_at (met := met) hqm
    refine awp_cond (b := false) (p := 2) (by simp [scal] <;> omega) ?_
    refine awp_exit ?_
    show awp _ _ _ _
    cases hm : met q with
    | true =>
     rw [hm] at hg hfin
     refine awp_seqR fun K hK => ?_
     simp (disch := omega) [ints, rows, scal, wr64, wr8, hg, hqm]
     (repeat' first | apply hK | apply And.intro) <;> try first | (show okH _ _ _ = true; kernel_rfl) | omega | rfl | (simp <;> omega)
     refine awp_cond (b := true) (p := 2) (by simp [scal] <;> omega) ?_
     refine awp_seqR fun K hK => ?_
     simp (disch := omega) [ints, rows, scal, wr64, wr8]
     (repeat' first | apply hK | apply And.intro) <;> try first | (show okH _ _ _ = true; kernel_rfl) | omega | rfl | (simp <;> omega)
     refine awp_ret ?_
     refine ⟨_, ⟨false, m, b2, nx, hX, by
      simp only [Bool.false_eq_true, false_iff]
      intro hA
      exact acy_iff.1 hA q hqm (hfin.1 rfl), rfl⟩, ?_⟩
     refine ⟨⟨.inr rfl, _, [], rfl, trivial, trivial, by simp [dfT, natsT], ?_⟩, by simp [dfT, natsT]⟩
     simp [dfT, natsT]
    | false =>
     rw [hm] at hg hfin
     refine awp_seqR fun K hK => ?_
     simp (disch := omega) [ints, rows, scal, wr64, wr8, hg, hqm]
     (repeat' first | apply hK | apply And.intro) <;> try first | (show okH _ _ _ = true; kernel_rfl) | omega | rfl | (simp <;> omega)
     refine awp_cond (b := false) (p := 2) (by simp [scal] <;> omega) ?_
     refine awp_skip ?_
     show awp _ _ _ _
     refine awp_R fun K hK => ?_
     simp (disch := omega) [ints, rows, scal, wr64, wr8]
     (repeat' first | apply hK | apply And.intro) <;> try first | (show okH _ _ _ = true; kernel_rfl) | omega | rfl | (simp <;> omega)
     refine ⟨q + 1, ⟨by omega, fun q' hq' hc => ?_⟩, by omega, ?_⟩
     ·by_cases e : q' = q
      ·subst e
       exact absurd (hfin.2 hc) (by simp)
      ·exact hno q' (by omega) hc
     ·refine wk_list [(1, some 1)] rfl ?_ ?_ ?_ ?_
      all_goals try simp [ints, rows, bools, dfT, dfO2]
 ·obtain rfl : q = m := by omega
  refine awp_cond (b := false) (p := 2) (by simp [scal] <;> omega) ?_
  refine awp_exit ?_
  show awp _ _ _ _
  refine awp_seqR fun K hK => ?_
  simp (disch := omega) [ints, rows, scal, wr64, wr8]
  (repeat' first | apply hK | apply And.intro) <;> try first | (show okH _ _ _ = true; kernel_rfl) | omega | rfl | (simp <;> omega)
  refine awp_ret ?_
  refine ⟨_, ⟨true, q, b2, nx, hX, by simp only [true_iff]; exact acy_iff.2 hno, rfl⟩, ?_⟩
  refine ⟨⟨.inr rfl, _, [], rfl, trivial, trivial, by simp [dfT, natsT], ?_⟩, by simp [dfT, natsT]⟩
  simp [dfT, natsT]
end Go.Proofs.YtnffigeofdagfaaDoor.M
