/-
  Walk in my logic: the law MonomialProves.
-/
import Derived.Test.YtnffigeofdagfaaDoorZrbw
import Derived.Test.YtnffigeofdagfaaDoorZraw
import Derived.Test.YtnffigeofdagfaaDoorZrbv
namespace Go.Proofs.YtnffigeofdagfaaDoor.M
open Go.RowKit
set_option linter.unusedVariables false
set_option linter.unusedSimpArgs false

def cnt30 (ms : List Mo) (w : List Nat) (k : Nat) : Nat := (ms.take (min k 30)).countP fun m => matB m w
theorem cnt30_succ {ms : List Mo} {w : List Nat} {k : Nat} (h : k < ms.length) (h3 : k < 30) : cnt30 ms w (k + 1) = cnt30 ms w k + if matB ms[k] w = true then 1 else 0 := by
 unfold cnt30
 rw [show min (k + 1) 30 = k + 1 by omega, show min k 30 = k by omega, List.take_succ_eq_append_getElem h, List.countP_append, List.countP_singleton]
theorem cnt30_stay {ms : List Mo} {w : List Nat} {k : Nat} (h3 : ¬ k < 30) : cnt30 ms w (k + 1) = cnt30 ms w k := by
 unfold cnt30
 rw [show min (k + 1) 30 = 30 by omega, show min k 30 = 30 by omega]
theorem cnt30_le (ms : List Mo) (w : List Nat) (k : Nat) : cnt30 ms w k ≤ 30 := by
 unfold cnt30
 exact Nat.le_trans List.countP_le_length (by rw [List.length_take]; omega)
theorem PrvL.all {left : Bool} {L s : Nat} {bs : List Bool} {nxt : List (List Int)} {ms : List Mo} (h : PrvL left L s bs nxt ms) (hl : ms.length ≤ 30) {w : List Nat} (hw : ∀ a ∈ w, a < L) : cnt30 ms w ms.length = if accR bs nxt s w = true then 1 else 0 := by
 unfold cnt30
 rw [show min ms.length 30 = ms.length by omega, List.take_length, ← h.cnt w hw]
 refine List.countP_congr (fun m hm => ?_)
 rw [matB_acc (h.ok m hm).sl]
set_option maxRecDepth 100000 in
set_option maxHeartbeats 16000000 in
theorem monProves_fn (l : List Int) (left : Bool) (w : List Int) : FnA Tryd.prog 6 [.t 1 (ints l), .t 2 (.bool left), .t 1 (ints w)] (.t 2 (.bool true)) := by
 have hnew := new_fn l
 obtain ⟨xs, hxs⟩ : ∃ xs, xs = l.take 80 := ⟨_, rfl⟩
 have hxl : xs.length ≤ 80 := by rw [hxs]; simp; omega
 rw [← hxs] at hnew
 have hnew2 := new_fn w
 obtain ⟨ys, hys⟩ : ∃ ys, ys = w.take 80 := ⟨_, rfl⟩
 have hyl : ys.length ≤ 80 := by rw [hys]; simp; omega
 rw [← hys] at hnew2
 obtain ⟨L, b, hL, hb, hlet⟩ := lettersT_fn xs 0 (by omega) hxl
 obtain ⟨_, _, ⟨n2, s2, b4, bs2, nxt2, hn2, hb4, hD2, rfl, rfl⟩, hord⟩ := ordered_fn xs b L 5 hb hxl (by omega) (by omega) (by omega) (by omega)
 obtain ⟨v, b2, hv, hb2, hnext⟩ := next_fn xs b4 3 hb4 hxl (by omega)
 have hv := hv (by omega)
 obtain ⟨_, _, ⟨n, s, b1, bs, nxt, hn, hb1, hD, rfl, rfl⟩, hany⟩ := anyK_fn xs b2 L 4 9 hb2 hxl hL (by omega) (by omega) (by omega) (by omega)
 obtain ⟨_, _, ⟨wd, b3, hwl, hwx, hb3, rfl, rfl⟩, hword⟩ := tword_fn ys 0 L 10 (by omega) hyl (by omega) (by omega) (by omega)
 refine fn_intro Tryd.func6 rfl (by simp [Tryd.f6]) ?_
 rw [show Tryd.f6.ntmps = 139 from rfl, show Tryd.f6.results = #[.tmp 6] from rfl]
 refine awp_seqR fun K hK => ?_
 simp (disch := omega) [KL_ap, KD_ap, awpL_nil, awpL_cons, awpD_nil, awpD_cons, awpOp, awpOpD, wrE, gd, aop, aBuiltin, aNil, aMin, ASt.eval, AV.ofV, dstOk, ASt.app, Eff.heap, dels, upd_b, aLoad, aStore, aField, aFieldV, aIndexAddr, aIndex, aSlice, aSliceO, aLen, aBin, iB, sB, aUn, aConv, aAlloc, aBox, aBuild, afill, avCells, AV.leaf, setR, aBuildSlice, frz, frzL, isOwn, vecOf, tsOf, aMake, srcOf, aAppend, aMkMap, aMapUpd, aLookup, oint, cut, putL, AObj.cnt, mkS, envOf_nil, envOf_cons, heapOf_nil, heapOf_cons, argS, Nat.blt_eq, callS, outV, outVs, outO, heap2, addL, delL, ints, rows, scal, wr64, wr8, List.getElem?_cons_zero]
 (repeat' first | apply hK | apply And.intro) <;> try first | (show okH _ _ _ = true; kernel_rfl) | omega | rfl | (simp <;> omega)
 refine awp_seqR fun K hK => ?_
 simp (disch := omega) [KL_ap, KD_ap, awpL_nil, awpL_cons, awpD_nil, awpD_cons, awpOp, awpOpD, wrE, gd, aop, aBuiltin, aNil, aMin, ASt.eval, AV.ofV, dstOk, ASt.app, Eff.heap, dels, upd_b, aLoad, aStore, aField, aFieldV, aIndexAddr, aIndex, aSlice, aSliceO, aLen, aBin, iB, sB, aUn, aConv, aAlloc, aBox, aBuild, afill, avCells, AV.leaf, setR, aBuildSlice, frz, frzL, isOwn, vecOf, tsOf, aMake, srcOf, aAppend, aMkMap, aMapUpd, aLookup, oint, cut, putL, AObj.cnt, mkS, envOf_nil, envOf_cons, heapOf_nil, heapOf_cons, argS, Nat.blt_eq, callS, outV, outVs, outO, heap2, addL, delL, ints, rows, scal, wr64, wr8, List.getElem?_cons_zero]
 (repeat' apply And.intro)
 all_goals (try omega)
 refine call_rule (caps := []) (hnew) [] [2000000] 1 rfl rfl rfl rfl (by kernel_rfl) (by simp [dstOk]) ?_ ?_ (by simp [ndL]) rfl (by simp [ndL]) ⟨.inl ⟨by omega, by omega⟩, trivial⟩ (by simp [okO, tpO]) ?_
 ·simp [inPs, inP, inOs, inO, ndL, upd_b, envOf_nil, envOf_cons, heapOf_nil, heapOf_cons, mkS, argS, callS, heap2, addL, delL, dels, outV, outVs, outO, ASt.eval, AV.ofV, scal, rows, ints, tpO]
 ·trivial
 simp (disch := omega) [KL_ap, KD_ap, awpL_nil, awpL_cons, awpD_nil, awpD_cons, awpOp, awpOpD, wrE, gd, aop, aBuiltin, aNil, aMin, ASt.eval, AV.ofV, dstOk, ASt.app, Eff.heap, dels, upd_b, aLoad, aStore, aField, aFieldV, aIndexAddr, aIndex, aSlice, aSliceO, aLen, aBin, iB, sB, aUn, aConv, aAlloc, aBox, aBuild, afill, avCells, AV.leaf, setR, aBuildSlice, frz, frzL, isOwn, vecOf, tsOf, aMake, srcOf, aAppend, aMkMap, aMapUpd, aLookup, oint, cut, putL, AObj.cnt, mkS, envOf_nil, envOf_cons, heapOf_nil, heapOf_cons, argS, Nat.blt_eq, callS, outV, outVs, outO, heap2, addL, delL, ints, rows, scal, wr64, wr8, List.getElem?_cons_zero, tpO]
 (repeat' first | apply hK | apply And.intro) <;> try first | (show okH _ _ _ = true; kernel_rfl) | omega | rfl | (simp <;> omega)
 refine awp_weak (σ' := mkS [(1, .t 2 (.bool left)), (2, .t 1 (ints w)), (7, .ptr 0 0 2)] [(0, tpO 1 xs 0)] 1 139 [.any, .any, .any]) ?_ ?_
 ·refine wk_list [(0, some 2000000)] rfl ?_ ?_ ?_ ?_
  all_goals try simp [wkE, wkP, wkPs, wkH, wkO, keysNd, unm, mpOf_nil, mpOf_cons, dels, upd_b, mkS, envOf_nil, envOf_cons, heapOf_nil, heapOf_cons, argS, callS, heap2, addL, delL, outV, outVs, outO, ghA, ghA1, ints, tpO]
 refine awp_seqR fun K hK => ?_
 simp (disch := omega) [KL_ap, KD_ap, awpL_nil, awpL_cons, awpD_nil, awpD_cons, awpOp, awpOpD, wrE, gd, aop, aBuiltin, aNil, aMin, ASt.eval, AV.ofV, dstOk, ASt.app, Eff.heap, dels, upd_b, aLoad, aStore, aField, aFieldV, aIndexAddr, aIndex, aSlice, aSliceO, aLen, aBin, iB, sB, aUn, aConv, aAlloc, aBox, aBuild, afill, avCells, AV.leaf, setR, aBuildSlice, frz, frzL, isOwn, vecOf, tsOf, aMake, srcOf, aAppend, aMkMap, aMapUpd, aLookup, oint, cut, putL, AObj.cnt, mkS, envOf_nil, envOf_cons, heapOf_nil, heapOf_cons, argS, Nat.blt_eq, callS, outV, outVs, outO, heap2, addL, delL, ints, rows, scal, wr64, wr8, List.getElem?_cons_zero]
 (repeat' apply And.intro)
 all_goals (try omega)
 refine call_rule (caps := []) (hlet) [0] [0] 1 rfl rfl rfl rfl (by kernel_rfl) (by simp [dstOk]) ?_ ?_ (by simp [ndL]) rfl (by simp [ndL]) ⟨.inr ⟨rfl, 0, _, _, _, _, _, rfl, rfl, rfl, rfl, rfl⟩, trivial⟩ (by simp [okO, tpO]) ?_
 ·simp [inPs, inP, inOs, inO, ndL, upd_b, envOf_nil, envOf_cons, heapOf_nil, heapOf_cons, mkS, argS, callS, heap2, addL, delL, dels, outV, outVs, outO, ASt.eval, AV.ofV, scal, rows, ints, tpO]
 ·simp [inPs, inP, inOs, inO, ndL, upd_b, envOf_nil, envOf_cons, heapOf_nil, heapOf_cons, mkS, argS, callS, heap2, addL, delL, dels, outV, outVs, outO, ASt.eval, AV.ofV, scal, rows, ints, tpO]
 simp (disch := omega) [KL_ap, KD_ap, awpL_nil, awpL_cons, awpD_nil, awpD_cons, awpOp, awpOpD, wrE, gd, aop, aBuiltin, aNil, aMin, ASt.eval, AV.ofV, dstOk, ASt.app, Eff.heap, dels, upd_b, aLoad, aStore, aField, aFieldV, aIndexAddr, aIndex, aSlice, aSliceO, aLen, aBin, iB, sB, aUn, aConv, aAlloc, aBox, aBuild, afill, avCells, AV.leaf, setR, aBuildSlice, frz, frzL, isOwn, vecOf, tsOf, aMake, srcOf, aAppend, aMkMap, aMapUpd, aLookup, oint, cut, putL, AObj.cnt, mkS, envOf_nil, envOf_cons, heapOf_nil, heapOf_cons, argS, Nat.blt_eq, callS, outV, outVs, outO, heap2, addL, delL, ints, rows, scal, wr64, wr8, List.getElem?_cons_zero, tpO]
 (repeat' first | apply hK | apply And.intro) <;> try first | (show okH _ _ _ = true; kernel_rfl) | omega | rfl | (simp <;> omega)
 refine awp_seqR fun K hK => ?_
 simp (disch := omega) [KL_ap, KD_ap, awpL_nil, awpL_cons, awpD_nil, awpD_cons, awpOp, awpOpD, wrE, gd, aop, aBuiltin, aNil, aMin, ASt.eval, AV.ofV, dstOk, ASt.app, Eff.heap, dels, upd_b, aLoad, aStore, aField, aFieldV, aIndexAddr, aIndex, aSlice, aSliceO, aLen, aBin, iB, sB, aUn, aConv, aAlloc, aBox, aBuild, afill, avCells, AV.leaf, setR, aBuildSlice, frz, frzL, isOwn, vecOf, tsOf, aMake, srcOf, aAppend, aMkMap, aMapUpd, aLookup, oint, cut, putL, AObj.cnt, mkS, envOf_nil, envOf_cons, heapOf_nil, heapOf_cons, argS, Nat.blt_eq, callS, outV, outVs, outO, heap2, addL, delL, ints, rows, scal, wr64, wr8, List.getElem?_cons_zero]
 (repeat' apply And.intro)
 all_goals (try omega)
 refine call_rule (caps := []) (hord) [0] [0] 1 rfl rfl rfl rfl (by kernel_rfl) (by simp [dstOk]) ?_ ?_ (by simp [ndL]) rfl (by simp [ndL]) ⟨.inr ⟨rfl, 0, _, _, _, _, _, rfl, rfl, rfl, rfl, rfl⟩, trivial⟩ (by simp [okO, tpO]) ?_
 ·simp [inPs, inP, inOs, inO, ndL, upd_b, envOf_nil, envOf_cons, heapOf_nil, heapOf_cons, mkS, argS, callS, heap2, addL, delL, dels, outV, outVs, outO, ASt.eval, AV.ofV, scal, rows, ints, tpO, dfT]
 ·simp [inPs, inP, inOs, inO, ndL, upd_b, envOf_nil, envOf_cons, heapOf_nil, heapOf_cons, mkS, argS, callS, heap2, addL, delL, dels, outV, outVs, outO, ASt.eval, AV.ofV, scal, rows, ints, tpO, dfT]
 simp (disch := omega) [KL_ap, KD_ap, awpL_nil, awpL_cons, awpD_nil, awpD_cons, awpOp, awpOpD, wrE, gd, aop, aBuiltin, aNil, aMin, ASt.eval, AV.ofV, dstOk, ASt.app, Eff.heap, dels, upd_b, aLoad, aStore, aField, aFieldV, aIndexAddr, aIndex, aSlice, aSliceO, aLen, aBin, iB, sB, aUn, aConv, aAlloc, aBox, aBuild, afill, avCells, AV.leaf, setR, aBuildSlice, frz, frzL, isOwn, vecOf, tsOf, aMake, srcOf, aAppend, aMkMap, aMapUpd, aLookup, oint, cut, putL, AObj.cnt, mkS, envOf_nil, envOf_cons, heapOf_nil, heapOf_cons, argS, Nat.blt_eq, callS, outV, outVs, outO, heap2, addL, delL, ints, rows, scal, wr64, wr8, List.getElem?_cons_zero, dfT, bools, tpO]
 (repeat' first | apply hK | apply And.intro) <;> try first | (show okH _ _ _ = true; kernel_rfl) | omega | rfl | (simp <;> omega)
 refine awp_join (fun σ' => ∃ n s bs nxt, n ≤ 9 ∧ DfL L n s bs nxt ∧ Wk σ' (mkS [(1, .t 2 (.bool left)), (2, .t 1 (ints w)), (8, .t 2 (.int .i64 L)), (9, .ptr 0 0 4)] [(0, dfO2 L s bs nxt)] 1 139 [.any, .any, .any])) ?_ ?_
 ·rintro σ' ⟨n, s, bs, nxt, hn, hD, hw⟩
  refine awp_weak hw ?_
  clear hw
  obtain ⟨l1, e1, hp1, hr1⟩ := rightV_fn hD (by omega) (by omega) (by omega)
  obtain ⟨l2, e2, hp2, hf1⟩ := leftV_fn hD (by omega) (by omega) hn
  refine awp_seqR fun K hK => ?_
  simp (disch := omega) [KL_ap, KD_ap, awpL_nil, awpL_cons, awpD_nil, awpD_cons, awpOp, awpOpD, wrE, gd, aop, aBuiltin, aNil, aMin, ASt.eval, AV.ofV, dstOk, ASt.app, Eff.heap, dels, upd_b, aLoad, aStore, aField, aFieldV, aIndexAddr, aIndex, aSlice, aSliceO, aLen, aBin, iB, sB, aUn, aConv, aAlloc, aBox, aBuild, afill, avCells, AV.leaf, setR, aBuildSlice, frz, frzL, isOwn, vecOf, tsOf, aMake, srcOf, aAppend, aMkMap, aMapUpd, aLookup, oint, cut, putL, AObj.cnt, mkS, envOf_nil, envOf_cons, heapOf_nil, heapOf_cons, argS, Nat.blt_eq, callS, outV, outVs, outO, heap2, addL, delL, ints, rows, scal, wr64, wr8, List.getElem?_cons_zero, dfO2]
  (repeat' apply And.intro)
  all_goals (try omega)
  refine call_rule (caps := []) (hr1) [] [] 2 rfl rfl rfl rfl (by kernel_rfl) (by simp [dstOk]) ?_ trivial trivial rfl trivial trivial (by simp [okO]) ?_
  ·simp [inPs, inP, upd_b, envOf_nil, envOf_cons, heapOf_nil, heapOf_cons, mkS, argS, callS, heap2, addL, delL, dels, outV, outVs, ASt.eval, AV.ofV, scal, rows, ints, dfT, bools]
  simp (disch := omega) [KL_ap, KD_ap, awpL_nil, awpL_cons, awpD_nil, awpD_cons, awpOp, awpOpD, wrE, gd, aop, aBuiltin, aNil, aMin, ASt.eval, AV.ofV, dstOk, ASt.app, Eff.heap, dels, upd_b, aLoad, aStore, aField, aFieldV, aIndexAddr, aIndex, aSlice, aSliceO, aLen, aBin, iB, sB, aUn, aConv, aAlloc, aBox, aBuild, afill, avCells, AV.leaf, setR, aBuildSlice, frz, frzL, isOwn, vecOf, tsOf, aMake, srcOf, aAppend, aMkMap, aMapUpd, aLookup, oint, cut, putL, AObj.cnt, mkS, envOf_nil, envOf_cons, heapOf_nil, heapOf_cons, argS, Nat.blt_eq, callS, outV, outVs, outO, heap2, addL, delL, ints, rows, scal, wr64, wr8, List.getElem?_cons_zero, monR]
  (repeat' first | apply hK | apply And.intro) <;> try first | (show okH _ _ _ = true; kernel_rfl) | omega | rfl | (simp <;> omega)
  refine awp_join (fun σ' => ∃ ms e, ((e = 0 ∧ PrvL left L s bs nxt ms) ∨ ((e = 3 ∨ e = 20) ∧ ms = [])) ∧ Wk σ' (mkS [(1, .t 2 (.bool left)), (2, .t 1 (ints w)), (8, .t 2 (.int .i64 L)), (9, .ptr 0 0 4), (10, .t 1 (.sl 2 (mosC ms))), (11, .t 2 (.int .i64 e))] [(0, dfO2 L s bs nxt)] 1 139 [.any, .any, .any])) ?_ ?_
  ·rintro σ' ⟨ms, e, hp, hw⟩
   refine awp_weak hw ?_
   clear hw
   refine awp_seq ?_
   refine awp_seqR fun K hK => ?_
   simp (disch := omega) [KL_ap, KD_ap, awpL_nil, awpL_cons, awpD_nil, awpD_cons, awpOp, awpOpD, wrE, gd, aop, aBuiltin, aNil, aMin, ASt.eval, AV.ofV, dstOk, ASt.app, Eff.heap, dels, upd_b, aLoad, aStore, aField, aFieldV, aIndexAddr, aIndex, aSlice, aSliceO, aLen, aBin, iB, sB, aUn, aConv, aAlloc, aBox, aBuild, afill, avCells, AV.leaf, setR, aBuildSlice, frz, frzL, isOwn, vecOf, tsOf, aMake, srcOf, aAppend, aMkMap, aMapUpd, aLookup, oint, cut, putL, AObj.cnt, mkS, envOf_nil, envOf_cons, heapOf_nil, heapOf_cons, argS, Nat.blt_eq, callS, outV, outVs, outO, heap2, addL, delL, ints, rows, scal, wr64, wr8, List.getElem?_cons_zero]
   (repeat' first | apply hK | apply And.intro) <;> try first | (show okH _ _ _ = true; kernel_rfl) | omega | rfl | (simp <;> omega)
   rcases hp with ⟨rfl, hp⟩ | ⟨he, rfl⟩
   ·refine awp_cond (b := false) (p := 2) (by simp [ASt.eval, upd_b, mkS, envOf_nil, envOf_cons, callS, outV, outVs, scal] <;> omega) ?_
    refine awp_skip ?_
    show awp _ _ _ _
    have hml := hp.len
    have hmd := mos_div ms
    refine awp_seqR fun K hK => ?_
    simp (disch := omega) [KL_ap, KD_ap, awpL_nil, awpL_cons, awpD_nil, awpD_cons, awpOp, awpOpD, wrE, gd, aop, aBuiltin, aNil, aMin, ASt.eval, AV.ofV, dstOk, ASt.app, Eff.heap, dels, upd_b, aLoad, aStore, aField, aFieldV, aIndexAddr, aIndex, aSlice, aSliceO, aLen, aBin, iB, sB, aUn, aConv, aAlloc, aBox, aBuild, afill, avCells, AV.leaf, setR, aBuildSlice, frz, frzL, isOwn, vecOf, tsOf, aMake, srcOf, aAppend, aMkMap, aMapUpd, aLookup, oint, cut, putL, AObj.cnt, mkS, envOf_nil, envOf_cons, heapOf_nil, heapOf_cons, argS, Nat.blt_eq, callS, outV, outVs, outO, heap2, addL, delL, ints, rows, scal, wr64, wr8, List.getElem?_cons_zero, dfO2]
    (repeat' apply And.intro)
    all_goals (try omega)
    refine call_rule (caps := []) (hnew2) [] [3000001] 1 rfl rfl rfl rfl (by kernel_rfl) (by simp [dstOk]) ?_ ?_ (by simp [ndL]) rfl (by simp [ndL]) ⟨.inl ⟨by omega, by omega⟩, trivial⟩ (by simp [okO, tpO]) ?_
    ·simp [inPs, inP, inOs, inO, ndL, upd_b, envOf_nil, envOf_cons, heapOf_nil, heapOf_cons, mkS, argS, callS, heap2, addL, delL, dels, outV, outVs, outO, ASt.eval, AV.ofV, scal, rows, ints, tpO]
    ·trivial
    simp (disch := omega) [KL_ap, KD_ap, awpL_nil, awpL_cons, awpD_nil, awpD_cons, awpOp, awpOpD, wrE, gd, aop, aBuiltin, aNil, aMin, ASt.eval, AV.ofV, dstOk, ASt.app, Eff.heap, dels, upd_b, aLoad, aStore, aField, aFieldV, aIndexAddr, aIndex, aSlice, aSliceO, aLen, aBin, iB, sB, aUn, aConv, aAlloc, aBox, aBuild, afill, avCells, AV.leaf, setR, aBuildSlice, frz, frzL, isOwn, vecOf, tsOf, aMake, srcOf, aAppend, aMkMap, aMapUpd, aLookup, oint, cut, putL, AObj.cnt, mkS, envOf_nil, envOf_cons, heapOf_nil, heapOf_cons, argS, Nat.blt_eq, callS, outV, outVs, outO, heap2, addL, delL, ints, rows, scal, wr64, wr8, List.getElem?_cons_zero, tpO]
    (repeat' apply And.intro)
    all_goals (try omega)
    refine call_rule (caps := []) (hword) [3000001] [3000001] 1 rfl rfl rfl rfl (by kernel_rfl) (by simp [dstOk]) ?_ ?_ (by simp [ndL]) rfl (by simp [ndL]) ⟨.inr ⟨rfl, 0, _, _, _, _, _, rfl, rfl, rfl, rfl, rfl⟩, trivial⟩ (by simp [okO, tpO]) ?_
    ·simp [inPs, inP, inOs, inO, ndL, upd_b, envOf_nil, envOf_cons, heapOf_nil, heapOf_cons, mkS, argS, callS, heap2, addL, delL, dels, outV, outVs, outO, ASt.eval, AV.ofV, scal, rows, ints, tpO]
    ·simp [inPs, inP, inOs, inO, ndL, upd_b, envOf_nil, envOf_cons, heapOf_nil, heapOf_cons, mkS, argS, callS, heap2, addL, delL, dels, outV, outVs, outO, ASt.eval, AV.ofV, scal, rows, ints, tpO]
    simp (disch := omega) [KL_ap, KD_ap, awpL_nil, awpL_cons, awpD_nil, awpD_cons, awpOp, awpOpD, wrE, gd, aop, aBuiltin, aNil, aMin, ASt.eval, AV.ofV, dstOk, ASt.app, Eff.heap, dels, upd_b, aLoad, aStore, aField, aFieldV, aIndexAddr, aIndex, aSlice, aSliceO, aLen, aBin, iB, sB, aUn, aConv, aAlloc, aBox, aBuild, afill, avCells, AV.leaf, setR, aBuildSlice, frz, frzL, isOwn, vecOf, tsOf, aMake, srcOf, aAppend, aMkMap, aMapUpd, aLookup, oint, cut, putL, AObj.cnt, mkS, envOf_nil, envOf_cons, heapOf_nil, heapOf_cons, argS, Nat.blt_eq, callS, outV, outVs, outO, heap2, addL, delL, ints, rows, scal, wr64, wr8, List.getElem?_cons_zero, tpO]
    (repeat' first | apply hK | apply And.intro) <;> try first | (show okH _ _ _ = true; kernel_rfl) | omega | rfl | (simp <;> omega)
    refine awp_weak (σ' := mkS [(1, .t 2 (.bool left)), (8, .t 2 (.int .i64 L)), (9, .ptr 0 0 4), (10, .t 1 (.sl 2 (mosC ms))), (12, .t 2 (.str (strL wd))), (13, .t 2 (.int .i64 0))] [(0, dfO2 L s bs nxt)] 1 139 [.any, .any, .any]) ?_ ?_
    ·refine wk_list [(0, some 0)] rfl ?_ ?_ ?_ ?_
     all_goals try simp [wkE, wkP, wkPs, wkH, wkO, keysNd, unm, mpOf_nil, mpOf_cons, dels, upd_b, mkS, envOf_nil, envOf_cons, heapOf_nil, heapOf_cons, argS, callS, heap2, addL, delL, outV, outVs, outO, ghA, ghA1, ints, dfO2, rows, bools]
    refine awp_seq ?_
    refine awp_seqR fun K hK => ?_
    simp (disch := omega) [KL_ap, KD_ap, awpL_nil, awpL_cons, awpD_nil, awpD_cons, awpOp, awpOpD, wrE, gd, aop, aBuiltin, aNil, aMin, ASt.eval, AV.ofV, dstOk, ASt.app, Eff.heap, dels, upd_b, aLoad, aStore, aField, aFieldV, aIndexAddr, aIndex, aSlice, aSliceO, aLen, aBin, iB, sB, aUn, aConv, aAlloc, aBox, aBuild, afill, avCells, AV.leaf, setR, aBuildSlice, frz, frzL, isOwn, vecOf, tsOf, aMake, srcOf, aAppend, aMkMap, aMapUpd, aLookup, oint, cut, putL, AObj.cnt, mkS, envOf_nil, envOf_cons, heapOf_nil, heapOf_cons, argS, Nat.blt_eq, callS, outV, outVs, outO, heap2, addL, delL, ints, rows, scal, wr64, wr8, List.getElem?_cons_zero, hmd]
    (repeat' first | apply hK | apply And.intro) <;> try first | (show okH _ _ _ = true; kernel_rfl) | omega | rfl | (simp <;> omega)
    refine awp_block ?_
    refine awp_loop (fun k : Nat => mkS [(1, .t 2 (.bool left)), (8, .t 2 (.int .i64 L)), (9, .ptr 0 0 4), (10, .t 1 (.sl 2 (mosC ms))), (12, .t 2 (.str (strL wd))), (13, .t 2 (.int .i64 (cnt30 ms wd k : Nat))), (61, .t 1 (.sl 2 (mosC ms))), (62, .t 2 (.int .i64 ms.length)), (63, .t 2 (.int .i64 k))] [(0, dfO2 L s bs nxt)] 1 139 [.any, .any, .any]) (fun k => k ≤ ms.length) (fun k => ms.length - k) ?_ ?_
    ·refine ⟨0, by omega, ?_⟩
     refine wk_list [(0, some 0)] rfl ?_ ?_ ?_ ?_
     all_goals try simp [wkE, wkP, wkPs, wkH, wkO, keysNd, unm, mpOf_nil, mpOf_cons, dels, upd_b, mkS, envOf_nil, envOf_cons, heapOf_nil, heapOf_cons, argS, callS, heap2, addL, delL, outV, outVs, outO, ghA, ghA1, ints, dfO2, rows, bools]
     rfl
    intro k hk
    have hck := cnt30_le ms wd k
    refine awp_seqR fun K hK => ?_
    simp (disch := omega) [KL_ap, KD_ap, awpL_nil, awpL_cons, awpD_nil, awpD_cons, awpOp, awpOpD, wrE, gd, aop, aBuiltin, aNil, aMin, ASt.eval, AV.ofV, dstOk, ASt.app, Eff.heap, dels, upd_b, aLoad, aStore, aField, aFieldV, aIndexAddr, aIndex, aSlice, aSliceO, aLen, aBin, iB, sB, aUn, aConv, aAlloc, aBox, aBuild, afill, avCells, AV.leaf, setR, aBuildSlice, frz, frzL, isOwn, vecOf, tsOf, aMake, srcOf, aAppend, aMkMap, aMapUpd, aLookup, oint, cut, putL, AObj.cnt, mkS, envOf_nil, envOf_cons, heapOf_nil, heapOf_cons, argS, Nat.blt_eq, callS, outV, outVs, outO, heap2, addL, delL, ints, rows, scal, wr64, wr8, List.getElem?_cons_zero]
    (repeat' first | apply hK | apply And.intro) <;> try first | (show okH _ _ _ = true; kernel_rfl) | omega | rfl | (simp <;> omega)
    refine awp_seq ?_
    by_cases hkl : k < ms.length
    ·have hat := mos_at hkl
     have hin := mos_in hkl
     have hmk := hp.ok ms[k] (by simp)
     have hma := match_fn (w := wd) (hmk.sixM (by omega)) (fun x hx => by have := hwx x hx; omega) (by omega)
     have hdd := fun h => determ_fn (hmk.sixM (by omega)) (hp.det h ms[k] (by simp))
     have hcd := fun h => codeterm_fn (hmk.sixM (by omega)) (hp.cod h ms[k] (by simp))
     have hun : FnA Tryd.prog 27 [moV 1 ms[k], .t 2 (.int .i64 L)] (.tup [.t 2 (.str (strL [])), .t 2 (.bool true), .t 2 (.int .i64 0)]) := by
      cases left with
      | true => exact unambC_fn hmk (by omega) (by omega) (hp.cod rfl ms[k] (by simp))
      | false => exact unambD_fn hmk (by omega) (by omega) (hp.det rfl ms[k] (by simp))
     refine awp_cond (b := true) (p := 2) (by simp [ASt.eval, upd_b, mkS, envOf_nil, envOf_cons, callS, outV, outVs, scal, hkl] <;> omega) ?_
     refine awp_skip ?_
     show awp _ _ _ _
     refine awp_seq ?_
     refine awp_block ?_
     refine awp_seqR fun K hK => ?_
     simp (disch := omega) [KL_ap, KD_ap, awpL_nil, awpL_cons, awpD_nil, awpD_cons, awpOp, awpOpD, wrE, gd, aop, aBuiltin, aNil, aMin, ASt.eval, AV.ofV, dstOk, ASt.app, Eff.heap, dels, upd_b, aLoad, aStore, aField, aFieldV, aIndexAddr, aIndex, aSlice, aSliceO, aLen, aBin, iB, sB, aUn, aConv, aAlloc, aBox, aBuild, afill, avCells, AV.leaf, setR, aBuildSlice, frz, frzL, isOwn, vecOf, tsOf, aMake, srcOf, aAppend, aMkMap, aMapUpd, aLookup, oint, cut, putL, AObj.cnt, mkS, envOf_nil, envOf_cons, heapOf_nil, heapOf_cons, argS, Nat.blt_eq, callS, outV, outVs, outO, heap2, addL, delL, ints, rows, scal, wr64, wr8, List.getElem?_cons_zero, hat, hin]
     (repeat' first | apply hK | apply And.intro) <;> try first | (show okH _ _ _ = true; kernel_rfl) | omega | rfl | (simp <;> omega)
     refine awp_seqR fun K hK => ?_
     simp (disch := omega) [KL_ap, KD_ap, awpL_nil, awpL_cons, awpD_nil, awpD_cons, awpOp, awpOpD, wrE, gd, aop, aBuiltin, aNil, aMin, ASt.eval, AV.ofV, dstOk, ASt.app, Eff.heap, dels, upd_b, aLoad, aStore, aField, aFieldV, aIndexAddr, aIndex, aSlice, aSliceO, aLen, aBin, iB, sB, aUn, aConv, aAlloc, aBox, aBuild, afill, avCells, AV.leaf, setR, aBuildSlice, frz, frzL, isOwn, vecOf, tsOf, aMake, srcOf, aAppend, aMkMap, aMapUpd, aLookup, oint, cut, putL, AObj.cnt, mkS, envOf_nil, envOf_cons, heapOf_nil, heapOf_cons, argS, Nat.blt_eq, callS, outV, outVs, outO, heap2, addL, delL, ints, rows, scal, wr64, wr8, List.getElem?_cons_zero]
     (repeat' apply And.intro)
     all_goals (try omega)
     refine call_rule (caps := []) (hun) [] [] 1 rfl rfl rfl rfl (by kernel_rfl) (by simp [dstOk]) ?_ ?_ (by simp [ndL]) rfl (by simp [ndL]) trivial (by simp [okO, moV]) ?_
     ·simp [inPs, inP, inOs, inO, ndL, upd_b, envOf_nil, envOf_cons, heapOf_nil, heapOf_cons, mkS, argS, callS, heap2, addL, delL, dels, outV, outVs, outO, ASt.eval, AV.ofV, scal, rows, ints, moV]
     ·trivial
     simp (disch := omega) [KL_ap, KD_ap, awpL_nil, awpL_cons, awpD_nil, awpD_cons, awpOp, awpOpD, wrE, gd, aop, aBuiltin, aNil, aMin, ASt.eval, AV.ofV, dstOk, ASt.app, Eff.heap, dels, upd_b, aLoad, aStore, aField, aFieldV, aIndexAddr, aIndex, aSlice, aSliceO, aLen, aBin, iB, sB, aUn, aConv, aAlloc, aBox, aBuild, afill, avCells, AV.leaf, setR, aBuildSlice, frz, frzL, isOwn, vecOf, tsOf, aMake, srcOf, aAppend, aMkMap, aMapUpd, aLookup, oint, cut, putL, AObj.cnt, mkS, envOf_nil, envOf_cons, heapOf_nil, heapOf_cons, argS, Nat.blt_eq, callS, outV, outVs, outO, heap2, addL, delL, ints, rows, scal, wr64, wr8, List.getElem?_cons_zero]
     (repeat' first | apply hK | apply And.intro) <;> try first | (show okH _ _ _ = true; kernel_rfl) | omega | rfl | (simp <;> omega)
     refine awp_join (fun σ' => Wk σ' (mkS [(1, .t 2 (.bool left)), (8, .t 2 (.int .i64 L)), (9, .ptr 0 0 4), (10, .t 1 (.sl 2 (mosC ms))), (12, .t 2 (.str (strL wd))), (13, .t 2 (.int .i64 (cnt30 ms wd k : Nat))), (14, .t 2 (.int .i64 k)), (15, .ptr 1 0 2), (61, .t 1 (.sl 2 (mosC ms))), (62, .t 2 (.int .i64 ms.length)), (63, .t 2 (.int .i64 k))] [(0, dfO2 L s bs nxt), (1, .box 37 [.t 1 (ints (nI ms[k].1)), .t 1 (ints (nI ms[k].2))])] 2 139 [.any, .any, .any])) ?_ ?_
     ·intro σ' hw
      refine awp_weak hw ?_
      clear hw
      by_cases h30 : k < 30
      ·have h30i : (k : Int) < 30 := by omega
       refine awp_seqR fun K hK => ?_
       simp (disch := omega) [KL_ap, KD_ap, awpL_nil, awpL_cons, awpD_nil, awpD_cons, awpOp, awpOpD, wrE, gd, aop, aBuiltin, aNil, aMin, ASt.eval, AV.ofV, dstOk, ASt.app, Eff.heap, dels, upd_b, aLoad, aStore, aField, aFieldV, aIndexAddr, aIndex, aSlice, aSliceO, aLen, aBin, iB, sB, aUn, aConv, aAlloc, aBox, aBuild, afill, avCells, AV.leaf, setR, aBuildSlice, frz, frzL, isOwn, vecOf, tsOf, aMake, srcOf, aAppend, aMkMap, aMapUpd, aLookup, oint, cut, putL, AObj.cnt, mkS, envOf_nil, envOf_cons, heapOf_nil, heapOf_cons, argS, Nat.blt_eq, callS, outV, outVs, outO, heap2, addL, delL, ints, rows, scal, wr64, wr8, List.getElem?_cons_zero, h30i]
       (repeat' apply And.intro)
       all_goals (try omega)
       refine call_rule (caps := []) (hma) [] [] 2 (by simp [gd, inPs, inP, upd_b, envOf_nil, envOf_cons, heapOf_nil, heapOf_cons, mkS, argS, callS, heap2, addL, delL, dels, outV, outVs, ASt.eval, AV.ofV, scal, rows, ints, moV]) rfl rfl rfl (by kernel_rfl) (by simp [dstOk]) ?_ trivial trivial rfl trivial trivial (by simp [okO]) ?_
       ·simp [inPs, inP, upd_b, envOf_nil, envOf_cons, heapOf_nil, heapOf_cons, mkS, argS, callS, heap2, addL, delL, dels, outV, outVs, ASt.eval, AV.ofV, scal, rows, ints, moV]
       simp (disch := omega) [KL_ap, KD_ap, awpL_nil, awpL_cons, awpD_nil, awpD_cons, awpOp, awpOpD, wrE, gd, aop, aBuiltin, aNil, aMin, ASt.eval, AV.ofV, dstOk, ASt.app, Eff.heap, dels, upd_b, aLoad, aStore, aField, aFieldV, aIndexAddr, aIndex, aSlice, aSliceO, aLen, aBin, iB, sB, aUn, aConv, aAlloc, aBox, aBuild, afill, avCells, AV.leaf, setR, aBuildSlice, frz, frzL, isOwn, vecOf, tsOf, aMake, srcOf, aAppend, aMkMap, aMapUpd, aLookup, oint, cut, putL, AObj.cnt, mkS, envOf_nil, envOf_cons, heapOf_nil, heapOf_cons, argS, Nat.blt_eq, callS, outV, outVs, outO, heap2, addL, delL, ints, rows, scal, wr64, wr8, List.getElem?_cons_zero]
       (repeat' first | apply hK | apply And.intro) <;> try first | (show okH _ _ _ = true; kernel_rfl) | omega | rfl | (simp <;> omega)
       have hs := cnt30_succ (w := wd) hkl h30
       generalize hmb : matB ms[k] wd = c at hs
       cases c with
       | true =>
        refine awp_cond (b := true) (p := 2) (by simp [ASt.eval, upd_b, mkS, envOf_nil, envOf_cons, callS, outV, outVs, scal] <;> omega) ?_
        refine awp_R fun K hK => ?_
        simp (disch := omega) [KL_ap, KD_ap, awpL_nil, awpL_cons, awpD_nil, awpD_cons, awpOp, awpOpD, wrE, gd, aop, aBuiltin, aNil, aMin, ASt.eval, AV.ofV, dstOk, ASt.app, Eff.heap, dels, upd_b, aLoad, aStore, aField, aFieldV, aIndexAddr, aIndex, aSlice, aSliceO, aLen, aBin, iB, sB, aUn, aConv, aAlloc, aBox, aBuild, afill, avCells, AV.leaf, setR, aBuildSlice, frz, frzL, isOwn, vecOf, tsOf, aMake, srcOf, aAppend, aMkMap, aMapUpd, aLookup, oint, cut, putL, AObj.cnt, mkS, envOf_nil, envOf_cons, heapOf_nil, heapOf_cons, argS, Nat.blt_eq, callS, outV, outVs, outO, heap2, addL, delL, ints, rows, scal, wr64, wr8, List.getElem?_cons_zero]
        (repeat' first | apply hK | apply And.intro) <;> try first | (show okH _ _ _ = true; kernel_rfl) | omega | rfl | (simp <;> omega)
        show awp _ _ _ _
        refine awp_R fun K hK => ?_
        simp (disch := omega) [KL_ap, KD_ap, awpL_nil, awpL_cons, awpD_nil, awpD_cons, awpOp, awpOpD, wrE, gd, aop, aBuiltin, aNil, aMin, ASt.eval, AV.ofV, dstOk, ASt.app, Eff.heap, dels, upd_b, aLoad, aStore, aField, aFieldV, aIndexAddr, aIndex, aSlice, aSliceO, aLen, aBin, iB, sB, aUn, aConv, aAlloc, aBox, aBuild, afill, avCells, AV.leaf, setR, aBuildSlice, frz, frzL, isOwn, vecOf, tsOf, aMake, srcOf, aAppend, aMkMap, aMapUpd, aLookup, oint, cut, putL, AObj.cnt, mkS, envOf_nil, envOf_cons, heapOf_nil, heapOf_cons, argS, Nat.blt_eq, callS, outV, outVs, outO, heap2, addL, delL, ints, rows, scal, wr64, wr8, List.getElem?_cons_zero]
        (repeat' first | apply hK | apply And.intro) <;> try first | (show okH _ _ _ = true; kernel_rfl) | omega | rfl | (simp <;> omega)
        refine ⟨k + 1, by omega, by omega, ?_⟩
        rw [hs]
        refine wk_list [(0, some 0)] rfl ?_ ?_ ?_ ?_
        all_goals try simp [wkE, wkP, wkPs, wkH, wkO, keysNd, unm, mpOf_nil, mpOf_cons, dels, upd_b, mkS, envOf_nil, envOf_cons, heapOf_nil, heapOf_cons, argS, callS, heap2, addL, delL, outV, outVs, outO, ghA, ghA1, ints, dfO2, rows, bools]
       | false =>
        refine awp_cond (b := false) (p := 2) (by simp [ASt.eval, upd_b, mkS, envOf_nil, envOf_cons, callS, outV, outVs, scal] <;> omega) ?_
        refine awp_skip ?_
        show awp _ _ _ _
        refine awp_R fun K hK => ?_
        simp (disch := omega) [KL_ap, KD_ap, awpL_nil, awpL_cons, awpD_nil, awpD_cons, awpOp, awpOpD, wrE, gd, aop, aBuiltin, aNil, aMin, ASt.eval, AV.ofV, dstOk, ASt.app, Eff.heap, dels, upd_b, aLoad, aStore, aField, aFieldV, aIndexAddr, aIndex, aSlice, aSliceO, aLen, aBin, iB, sB, aUn, aConv, aAlloc, aBox, aBuild, afill, avCells, AV.leaf, setR, aBuildSlice, frz, frzL, isOwn, vecOf, tsOf, aMake, srcOf, aAppend, aMkMap, aMapUpd, aLookup, oint, cut, putL, AObj.cnt, mkS, envOf_nil, envOf_cons, heapOf_nil, heapOf_cons, argS, Nat.blt_eq, callS, outV, outVs, outO, heap2, addL, delL, ints, rows, scal, wr64, wr8, List.getElem?_cons_zero]
        (repeat' first | apply hK | apply And.intro) <;> try first | (show okH _ _ _ = true; kernel_rfl) | omega | rfl | (simp <;> omega)
        refine ⟨k + 1, by omega, by omega, ?_⟩
        rw [hs]
        refine wk_list [(0, some 0)] rfl ?_ ?_ ?_ ?_
        all_goals try simp [wkE, wkP, wkPs, wkH, wkO, keysNd, unm, mpOf_nil, mpOf_cons, dels, upd_b, mkS, envOf_nil, envOf_cons, heapOf_nil, heapOf_cons, argS, callS, heap2, addL, delL, outV, outVs, outO, ghA, ghA1, ints, dfO2, rows, bools]
      ·have hs := cnt30_stay (ms := ms) (w := wd) h30
       have h30i : ¬ (k : Int) < 30 := by omega
       refine awp_seqR fun K hK => ?_
       simp (disch := omega) [KL_ap, KD_ap, awpL_nil, awpL_cons, awpD_nil, awpD_cons, awpOp, awpOpD, wrE, gd, aop, aBuiltin, aNil, aMin, ASt.eval, AV.ofV, dstOk, ASt.app, Eff.heap, dels, upd_b, aLoad, aStore, aField, aFieldV, aIndexAddr, aIndex, aSlice, aSliceO, aLen, aBin, iB, sB, aUn, aConv, aAlloc, aBox, aBuild, afill, avCells, AV.leaf, setR, aBuildSlice, frz, frzL, isOwn, vecOf, tsOf, aMake, srcOf, aAppend, aMkMap, aMapUpd, aLookup, oint, cut, putL, AObj.cnt, mkS, envOf_nil, envOf_cons, heapOf_nil, heapOf_cons, argS, Nat.blt_eq, callS, outV, outVs, outO, heap2, addL, delL, ints, rows, scal, wr64, wr8, List.getElem?_cons_zero, h30i]
       (repeat' first | apply hK | apply And.intro) <;> try first | (show okH _ _ _ = true; kernel_rfl) | omega | rfl | (simp <;> omega)
       refine awp_cond (b := false) (p := 2) (by simp [ASt.eval, upd_b, mkS, envOf_nil, envOf_cons, callS, outV, outVs, scal] <;> omega) ?_
       refine awp_skip ?_
       show awp _ _ _ _
       refine awp_R fun K hK => ?_
       simp (disch := omega) [KL_ap, KD_ap, awpL_nil, awpL_cons, awpD_nil, awpD_cons, awpOp, awpOpD, wrE, gd, aop, aBuiltin, aNil, aMin, ASt.eval, AV.ofV, dstOk, ASt.app, Eff.heap, dels, upd_b, aLoad, aStore, aField, aFieldV, aIndexAddr, aIndex, aSlice, aSliceO, aLen, aBin, iB, sB, aUn, aConv, aAlloc, aBox, aBuild, afill, avCells, AV.leaf, setR, aBuildSlice, frz, frzL, isOwn, vecOf, tsOf, aMake, srcOf, aAppend, aMkMap, aMapUpd, aLookup, oint, cut, putL, AObj.cnt, mkS, envOf_nil, envOf_cons, heapOf_nil, heapOf_cons, argS, Nat.blt_eq, callS, outV, outVs, outO, heap2, addL, delL, ints, rows, scal, wr64, wr8, List.getElem?_cons_zero]
       (repeat' first | apply hK | apply And.intro) <;> try first | (show okH _ _ _ = true; kernel_rfl) | omega | rfl | (simp <;> omega)
       refine ⟨k + 1, by omega, by omega, ?_⟩
       rw [hs]
       refine wk_list [(0, some 0)] rfl ?_ ?_ ?_ ?_
       all_goals try simp [wkE, wkP, wkPs, wkH, wkO, keysNd, unm, mpOf_nil, mpOf_cons, dels, upd_b, mkS, envOf_nil, envOf_cons, heapOf_nil, heapOf_cons, argS, callS, heap2, addL, delL, outV, outVs, outO, ghA, ghA1, ints, dfO2, rows, bools]
     ·cases left with
      | true =>
       have hcd := hcd rfl
       refine awp_seqR fun K hK => ?_
       simp (disch := omega) [KL_ap, KD_ap, awpL_nil, awpL_cons, awpD_nil, awpD_cons, awpOp, awpOpD, wrE, gd, aop, aBuiltin, aNil, aMin, ASt.eval, AV.ofV, dstOk, ASt.app, Eff.heap, dels, upd_b, aLoad, aStore, aField, aFieldV, aIndexAddr, aIndex, aSlice, aSliceO, aLen, aBin, iB, sB, aUn, aConv, aAlloc, aBox, aBuild, afill, avCells, AV.leaf, setR, aBuildSlice, frz, frzL, isOwn, vecOf, tsOf, aMake, srcOf, aAppend, aMkMap, aMapUpd, aLookup, oint, cut, putL, AObj.cnt, mkS, envOf_nil, envOf_cons, heapOf_nil, heapOf_cons, argS, Nat.blt_eq, callS, outV, outVs, outO, heap2, addL, delL, ints, rows, scal, wr64, wr8, List.getElem?_cons_zero]
       (repeat' apply And.intro)
       all_goals (try omega)
       refine call_rule (caps := []) (hcd) [] [] 2 (by simp [gd, inPs, inP, upd_b, envOf_nil, envOf_cons, heapOf_nil, heapOf_cons, mkS, argS, callS, heap2, addL, delL, dels, outV, outVs, ASt.eval, AV.ofV, scal, rows, ints, moV]) rfl rfl rfl (by kernel_rfl) (by simp [dstOk]) ?_ trivial trivial rfl trivial trivial (by simp [okO]) ?_
       ·simp [inPs, inP, upd_b, envOf_nil, envOf_cons, heapOf_nil, heapOf_cons, mkS, argS, callS, heap2, addL, delL, dels, outV, outVs, ASt.eval, AV.ofV, scal, rows, ints, moV]
       simp (disch := omega) [KL_ap, KD_ap, awpL_nil, awpL_cons, awpD_nil, awpD_cons, awpOp, awpOpD, wrE, gd, aop, aBuiltin, aNil, aMin, ASt.eval, AV.ofV, dstOk, ASt.app, Eff.heap, dels, upd_b, aLoad, aStore, aField, aFieldV, aIndexAddr, aIndex, aSlice, aSliceO, aLen, aBin, iB, sB, aUn, aConv, aAlloc, aBox, aBuild, afill, avCells, AV.leaf, setR, aBuildSlice, frz, frzL, isOwn, vecOf, tsOf, aMake, srcOf, aAppend, aMkMap, aMapUpd, aLookup, oint, cut, putL, AObj.cnt, mkS, envOf_nil, envOf_cons, heapOf_nil, heapOf_cons, argS, Nat.blt_eq, callS, outV, outVs, outO, heap2, addL, delL, ints, rows, scal, wr64, wr8, List.getElem?_cons_zero]
       (repeat' first | apply hK | apply And.intro) <;> try first | (show okH _ _ _ = true; kernel_rfl) | omega | rfl | (simp <;> omega)
       refine awp_cond (b := false) (p := 2) (by simp [ASt.eval, upd_b, mkS, envOf_nil, envOf_cons, callS, outV, outVs, scal] <;> omega) ?_
       refine awp_skip ?_
       refine wk_list [(0, some 0), (1, some 4000001)] rfl ?_ ?_ ?_ ?_
       all_goals try simp [wkE, wkP, wkPs, wkH, wkO, keysNd, unm, mpOf_nil, mpOf_cons, dels, upd_b, mkS, envOf_nil, envOf_cons, heapOf_nil, heapOf_cons, argS, callS, heap2, addL, delL, outV, outVs, outO, ghA, ghA1, ints, dfO2, rows, bools]
      | false =>
       have hdd := hdd rfl
       refine awp_seqR fun K hK => ?_
       simp (disch := omega) [KL_ap, KD_ap, awpL_nil, awpL_cons, awpD_nil, awpD_cons, awpOp, awpOpD, wrE, gd, aop, aBuiltin, aNil, aMin, ASt.eval, AV.ofV, dstOk, ASt.app, Eff.heap, dels, upd_b, aLoad, aStore, aField, aFieldV, aIndexAddr, aIndex, aSlice, aSliceO, aLen, aBin, iB, sB, aUn, aConv, aAlloc, aBox, aBuild, afill, avCells, AV.leaf, setR, aBuildSlice, frz, frzL, isOwn, vecOf, tsOf, aMake, srcOf, aAppend, aMkMap, aMapUpd, aLookup, oint, cut, putL, AObj.cnt, mkS, envOf_nil, envOf_cons, heapOf_nil, heapOf_cons, argS, Nat.blt_eq, callS, outV, outVs, outO, heap2, addL, delL, ints, rows, scal, wr64, wr8, List.getElem?_cons_zero]
       (repeat' apply And.intro)
       all_goals (try omega)
       refine call_rule (caps := []) (hdd) [] [] 2 (by simp [gd, inPs, inP, upd_b, envOf_nil, envOf_cons, heapOf_nil, heapOf_cons, mkS, argS, callS, heap2, addL, delL, dels, outV, outVs, ASt.eval, AV.ofV, scal, rows, ints, moV]) rfl rfl rfl (by kernel_rfl) (by simp [dstOk]) ?_ trivial trivial rfl trivial trivial (by simp [okO]) ?_
       ·simp [inPs, inP, upd_b, envOf_nil, envOf_cons, heapOf_nil, heapOf_cons, mkS, argS, callS, heap2, addL, delL, dels, outV, outVs, ASt.eval, AV.ofV, scal, rows, ints, moV]
       simp (disch := omega) [KL_ap, KD_ap, awpL_nil, awpL_cons, awpD_nil, awpD_cons, awpOp, awpOpD, wrE, gd, aop, aBuiltin, aNil, aMin, ASt.eval, AV.ofV, dstOk, ASt.app, Eff.heap, dels, upd_b, aLoad, aStore, aField, aFieldV, aIndexAddr, aIndex, aSlice, aSliceO, aLen, aBin, iB, sB, aUn, aConv, aAlloc, aBox, aBuild, afill, avCells, AV.leaf, setR, aBuildSlice, frz, frzL, isOwn, vecOf, tsOf, aMake, srcOf, aAppend, aMkMap, aMapUpd, aLookup, oint, cut, putL, AObj.cnt, mkS, envOf_nil, envOf_cons, heapOf_nil, heapOf_cons, argS, Nat.blt_eq, callS, outV, outVs, outO, heap2, addL, delL, ints, rows, scal, wr64, wr8, List.getElem?_cons_zero]
       (repeat' first | apply hK | apply And.intro) <;> try first | (show okH _ _ _ = true; kernel_rfl) | omega | rfl | (simp <;> omega)
       refine awp_cond (b := false) (p := 2) (by simp [ASt.eval, upd_b, mkS, envOf_nil, envOf_cons, callS, outV, outVs, scal] <;> omega) ?_
       refine awp_skip ?_
       refine wk_list [(0, some 0), (1, some 4000001)] rfl ?_ ?_ ?_ ?_
       all_goals try simp [wkE, wkP, wkPs, wkH, wkO, keysNd, unm, mpOf_nil, mpOf_cons, dels, upd_b, mkS, envOf_nil, envOf_cons, heapOf_nil, heapOf_cons, argS, callS, heap2, addL, delL, outV, outVs, outO, ghA, ghA1, ints, dfO2, rows, bools]
    ·obtain rfl : k = ms.length := by omega
     refine awp_cond (b := false) (p := 2) (by simp [ASt.eval, upd_b, mkS, envOf_nil, envOf_cons, callS, outV, outVs, scal] <;> omega) ?_
     refine awp_exit ?_
     show awp _ _ _ _
     clear hck hkl hk
     refine awp_seq ?_
     refine awp_seqR fun K hK => ?_
     simp (disch := omega) [KL_ap, KD_ap, awpL_nil, awpL_cons, awpD_nil, awpD_cons, awpOp, awpOpD, wrE, gd, aop, aBuiltin, aNil, aMin, ASt.eval, AV.ofV, dstOk, ASt.app, Eff.heap, dels, upd_b, aLoad, aStore, aField, aFieldV, aIndexAddr, aIndex, aSlice, aSliceO, aLen, aBin, iB, sB, aUn, aConv, aAlloc, aBox, aBuild, afill, avCells, AV.leaf, setR, aBuildSlice, frz, frzL, isOwn, vecOf, tsOf, aMake, srcOf, aAppend, aMkMap, aMapUpd, aLookup, oint, cut, putL, AObj.cnt, mkS, envOf_nil, envOf_cons, heapOf_nil, heapOf_cons, argS, Nat.blt_eq, callS, outV, outVs, outO, heap2, addL, delL, ints, rows, scal, wr64, wr8, List.getElem?_cons_zero, hmd]
     (repeat' first | apply hK | apply And.intro) <;> try first | (show okH _ _ _ = true; kernel_rfl) | omega | rfl | (simp <;> omega)
     by_cases h30 : 30 < ms.length
     ·refine awp_cond (b := true) (p := 2) (by simp [ASt.eval, upd_b, mkS, envOf_nil, envOf_cons, callS, outV, outVs, scal, h30] <;> omega) ?_
      refine awp_seqR fun K hK => ?_
      simp (disch := omega) [KL_ap, KD_ap, awpL_nil, awpL_cons, awpD_nil, awpD_cons, awpOp, awpOpD, wrE, gd, aop, aBuiltin, aNil, aMin, ASt.eval, AV.ofV, dstOk, ASt.app, Eff.heap, dels, upd_b, aLoad, aStore, aField, aFieldV, aIndexAddr, aIndex, aSlice, aSliceO, aLen, aBin, iB, sB, aUn, aConv, aAlloc, aBox, aBuild, afill, avCells, AV.leaf, setR, aBuildSlice, frz, frzL, isOwn, vecOf, tsOf, aMake, srcOf, aAppend, aMkMap, aMapUpd, aLookup, oint, cut, putL, AObj.cnt, mkS, envOf_nil, envOf_cons, heapOf_nil, heapOf_cons, argS, Nat.blt_eq, callS, outV, outVs, outO, heap2, addL, delL, ints, rows, scal, wr64, wr8, List.getElem?_cons_zero]
      (repeat' apply And.intro)
      all_goals (try omega)
      refine call_rule (caps := []) (known35M_fn) [] [] 2 rfl rfl rfl rfl (by kernel_rfl) (by simp [dstOk]) ?_ trivial trivial rfl trivial trivial (by simp [okO]) ?_
      ·simp [inPs, inP, upd_b, envOf_nil, envOf_cons, heapOf_nil, heapOf_cons, mkS, argS, callS, heap2, addL, delL, dels, outV, outVs, ASt.eval, AV.ofV, scal, rows, ints]
      simp (disch := omega) [KL_ap, KD_ap, awpL_nil, awpL_cons, awpD_nil, awpD_cons, awpOp, awpOpD, wrE, gd, aop, aBuiltin, aNil, aMin, ASt.eval, AV.ofV, dstOk, ASt.app, Eff.heap, dels, upd_b, aLoad, aStore, aField, aFieldV, aIndexAddr, aIndex, aSlice, aSliceO, aLen, aBin, iB, sB, aUn, aConv, aAlloc, aBox, aBuild, afill, avCells, AV.leaf, setR, aBuildSlice, frz, frzL, isOwn, vecOf, tsOf, aMake, srcOf, aAppend, aMkMap, aMapUpd, aLookup, oint, cut, putL, AObj.cnt, mkS, envOf_nil, envOf_cons, heapOf_nil, heapOf_cons, argS, Nat.blt_eq, callS, outV, outVs, outO, heap2, addL, delL, ints, rows, scal, wr64, wr8, List.getElem?_cons_zero]
      (repeat' first | apply hK | apply And.intro) <;> try first | (show okH _ _ _ = true; kernel_rfl) | omega | rfl | (simp <;> omega)
      refine awp_ret ?_
      refine ⟨⟨.inr rfl, _, [], rfl, trivial, trivial, by simp [ghA, ghA1, wkPs, wkP, mkS, argS], ?_⟩, by simp [ghA, ghA1, mkS, argS]⟩
      simp [wkP, wkPs, upd_b, unm, mkS, envOf_nil, envOf_cons, heapOf_nil, heapOf_cons, argS, callS, heap2, addL, delL]
     ·have hcn := hp.all (by omega) hwx
      have hdj := disjoint_fn hp.ok (by omega) (by omega) hml hp.dis
      have hacc := accepts_fn hD (by omega) (by omega) (by omega) hwx (by omega)
      refine awp_cond (b := false) (p := 2) (by simp [ASt.eval, upd_b, mkS, envOf_nil, envOf_cons, callS, outV, outVs, scal, h30] <;> omega) ?_
      refine awp_skip ?_
      show awp _ _ _ _
      refine awp_seqR fun K hK => ?_
      simp (disch := omega) [KL_ap, KD_ap, awpL_nil, awpL_cons, awpD_nil, awpD_cons, awpOp, awpOpD, wrE, gd, aop, aBuiltin, aNil, aMin, ASt.eval, AV.ofV, dstOk, ASt.app, Eff.heap, dels, upd_b, aLoad, aStore, aField, aFieldV, aIndexAddr, aIndex, aSlice, aSliceO, aLen, aBin, iB, sB, aUn, aConv, aAlloc, aBox, aBuild, afill, avCells, AV.leaf, setR, aBuildSlice, frz, frzL, isOwn, vecOf, tsOf, aMake, srcOf, aAppend, aMkMap, aMapUpd, aLookup, oint, cut, putL, AObj.cnt, mkS, envOf_nil, envOf_cons, heapOf_nil, heapOf_cons, argS, Nat.blt_eq, callS, outV, outVs, outO, heap2, addL, delL, ints, rows, scal, wr64, wr8, List.getElem?_cons_zero]
      (repeat' apply And.intro)
      all_goals (try omega)
      refine call_rule (caps := []) (hdj) [] [] 2 rfl rfl rfl rfl (by kernel_rfl) (by simp [dstOk]) ?_ trivial trivial rfl trivial trivial (by simp [okO]) ?_
      ·simp [inPs, inP, upd_b, envOf_nil, envOf_cons, heapOf_nil, heapOf_cons, mkS, argS, callS, heap2, addL, delL, dels, outV, outVs, ASt.eval, AV.ofV, scal, rows, ints]
      simp (disch := omega) [KL_ap, KD_ap, awpL_nil, awpL_cons, awpD_nil, awpD_cons, awpOp, awpOpD, wrE, gd, aop, aBuiltin, aNil, aMin, ASt.eval, AV.ofV, dstOk, ASt.app, Eff.heap, dels, upd_b, aLoad, aStore, aField, aFieldV, aIndexAddr, aIndex, aSlice, aSliceO, aLen, aBin, iB, sB, aUn, aConv, aAlloc, aBox, aBuild, afill, avCells, AV.leaf, setR, aBuildSlice, frz, frzL, isOwn, vecOf, tsOf, aMake, srcOf, aAppend, aMkMap, aMapUpd, aLookup, oint, cut, putL, AObj.cnt, mkS, envOf_nil, envOf_cons, heapOf_nil, heapOf_cons, argS, Nat.blt_eq, callS, outV, outVs, outO, heap2, addL, delL, ints, rows, scal, wr64, wr8, List.getElem?_cons_zero]
      (repeat' first | apply hK | apply And.intro) <;> try first | (show okH _ _ _ = true; kernel_rfl) | omega | rfl | (simp <;> omega)
      rw [hcn]
      generalize accR bs nxt s wd = c at hacc
      cases c with
      | true =>
       refine awp_seqR fun K hK => ?_
       simp (disch := omega) [KL_ap, KD_ap, awpL_nil, awpL_cons, awpD_nil, awpD_cons, awpOp, awpOpD, wrE, gd, aop, aBuiltin, aNil, aMin, ASt.eval, AV.ofV, dstOk, ASt.app, Eff.heap, dels, upd_b, aLoad, aStore, aField, aFieldV, aIndexAddr, aIndex, aSlice, aSliceO, aLen, aBin, iB, sB, aUn, aConv, aAlloc, aBox, aBuild, afill, avCells, AV.leaf, setR, aBuildSlice, frz, frzL, isOwn, vecOf, tsOf, aMake, srcOf, aAppend, aMkMap, aMapUpd, aLookup, oint, cut, putL, AObj.cnt, mkS, envOf_nil, envOf_cons, heapOf_nil, heapOf_cons, argS, Nat.blt_eq, callS, outV, outVs, outO, heap2, addL, delL, ints, rows, scal, wr64, wr8, List.getElem?_cons_zero, dfO2]
       (repeat' apply And.intro)
       all_goals (try omega)
       refine call_rule (caps := []) (hacc) [] [] 2 (by simp [gd, inPs, inP, upd_b, envOf_nil, envOf_cons, heapOf_nil, heapOf_cons, mkS, argS, callS, heap2, addL, delL, dels, outV, outVs, ASt.eval, AV.ofV, scal, rows, ints, dfT, bools]) rfl rfl rfl (by kernel_rfl) (by simp [dstOk]) ?_ trivial trivial rfl trivial trivial (by simp [okO]) ?_
       ·simp [inPs, inP, upd_b, envOf_nil, envOf_cons, heapOf_nil, heapOf_cons, mkS, argS, callS, heap2, addL, delL, dels, outV, outVs, ASt.eval, AV.ofV, scal, rows, ints, dfT, bools]
       simp (disch := omega) [KL_ap, KD_ap, awpL_nil, awpL_cons, awpD_nil, awpD_cons, awpOp, awpOpD, wrE, gd, aop, aBuiltin, aNil, aMin, ASt.eval, AV.ofV, dstOk, ASt.app, Eff.heap, dels, upd_b, aLoad, aStore, aField, aFieldV, aIndexAddr, aIndex, aSlice, aSliceO, aLen, aBin, iB, sB, aUn, aConv, aAlloc, aBox, aBuild, afill, avCells, AV.leaf, setR, aBuildSlice, frz, frzL, isOwn, vecOf, tsOf, aMake, srcOf, aAppend, aMkMap, aMapUpd, aLookup, oint, cut, putL, AObj.cnt, mkS, envOf_nil, envOf_cons, heapOf_nil, heapOf_cons, argS, Nat.blt_eq, callS, outV, outVs, outO, heap2, addL, delL, ints, rows, scal, wr64, wr8, List.getElem?_cons_zero]
       (repeat' apply And.intro)
       all_goals (try omega)
       refine call_rule (caps := []) (known35M_fn) [] [] 2 (by simp [gd, inPs, inP, upd_b, envOf_nil, envOf_cons, heapOf_nil, heapOf_cons, mkS, argS, callS, heap2, addL, delL, dels, outV, outVs, ASt.eval, AV.ofV, scal, rows, ints]) rfl rfl rfl (by kernel_rfl) (by simp [dstOk]) ?_ trivial trivial rfl trivial trivial (by simp [okO]) ?_
       ·simp [inPs, inP, upd_b, envOf_nil, envOf_cons, heapOf_nil, heapOf_cons, mkS, argS, callS, heap2, addL, delL, dels, outV, outVs, ASt.eval, AV.ofV, scal, rows, ints]
       simp (disch := omega) [KL_ap, KD_ap, awpL_nil, awpL_cons, awpD_nil, awpD_cons, awpOp, awpOpD, wrE, gd, aop, aBuiltin, aNil, aMin, ASt.eval, AV.ofV, dstOk, ASt.app, Eff.heap, dels, upd_b, aLoad, aStore, aField, aFieldV, aIndexAddr, aIndex, aSlice, aSliceO, aLen, aBin, iB, sB, aUn, aConv, aAlloc, aBox, aBuild, afill, avCells, AV.leaf, setR, aBuildSlice, frz, frzL, isOwn, vecOf, tsOf, aMake, srcOf, aAppend, aMkMap, aMapUpd, aLookup, oint, cut, putL, AObj.cnt, mkS, envOf_nil, envOf_cons, heapOf_nil, heapOf_cons, argS, Nat.blt_eq, callS, outV, outVs, outO, heap2, addL, delL, ints, rows, scal, wr64, wr8, List.getElem?_cons_zero]
       (repeat' first | apply hK | apply And.intro) <;> try first | (show okH _ _ _ = true; kernel_rfl) | omega | rfl | (simp <;> omega)
       refine awp_ret ?_
       refine ⟨⟨.inr rfl, _, [], rfl, trivial, trivial, by simp [ghA, ghA1, wkPs, wkP, mkS, argS], ?_⟩, by simp [ghA, ghA1, mkS, argS]⟩
       simp [wkP, wkPs, upd_b, unm, mkS, envOf_nil, envOf_cons, heapOf_nil, heapOf_cons, argS, callS, heap2, addL, delL]
      | false =>
       refine awp_seqR fun K hK => ?_
       simp (disch := omega) [KL_ap, KD_ap, awpL_nil, awpL_cons, awpD_nil, awpD_cons, awpOp, awpOpD, wrE, gd, aop, aBuiltin, aNil, aMin, ASt.eval, AV.ofV, dstOk, ASt.app, Eff.heap, dels, upd_b, aLoad, aStore, aField, aFieldV, aIndexAddr, aIndex, aSlice, aSliceO, aLen, aBin, iB, sB, aUn, aConv, aAlloc, aBox, aBuild, afill, avCells, AV.leaf, setR, aBuildSlice, frz, frzL, isOwn, vecOf, tsOf, aMake, srcOf, aAppend, aMkMap, aMapUpd, aLookup, oint, cut, putL, AObj.cnt, mkS, envOf_nil, envOf_cons, heapOf_nil, heapOf_cons, argS, Nat.blt_eq, callS, outV, outVs, outO, heap2, addL, delL, ints, rows, scal, wr64, wr8, List.getElem?_cons_zero, dfO2]
       (repeat' apply And.intro)
       all_goals (try omega)
       refine call_rule (caps := []) (hacc) [] [] 2 (by simp [gd, inPs, inP, upd_b, envOf_nil, envOf_cons, heapOf_nil, heapOf_cons, mkS, argS, callS, heap2, addL, delL, dels, outV, outVs, ASt.eval, AV.ofV, scal, rows, ints, dfT, bools]) rfl rfl rfl (by kernel_rfl) (by simp [dstOk]) ?_ trivial trivial rfl trivial trivial (by simp [okO]) ?_
       ·simp [inPs, inP, upd_b, envOf_nil, envOf_cons, heapOf_nil, heapOf_cons, mkS, argS, callS, heap2, addL, delL, dels, outV, outVs, ASt.eval, AV.ofV, scal, rows, ints, dfT, bools]
       simp (disch := omega) [KL_ap, KD_ap, awpL_nil, awpL_cons, awpD_nil, awpD_cons, awpOp, awpOpD, wrE, gd, aop, aBuiltin, aNil, aMin, ASt.eval, AV.ofV, dstOk, ASt.app, Eff.heap, dels, upd_b, aLoad, aStore, aField, aFieldV, aIndexAddr, aIndex, aSlice, aSliceO, aLen, aBin, iB, sB, aUn, aConv, aAlloc, aBox, aBuild, afill, avCells, AV.leaf, setR, aBuildSlice, frz, frzL, isOwn, vecOf, tsOf, aMake, srcOf, aAppend, aMkMap, aMapUpd, aLookup, oint, cut, putL, AObj.cnt, mkS, envOf_nil, envOf_cons, heapOf_nil, heapOf_cons, argS, Nat.blt_eq, callS, outV, outVs, outO, heap2, addL, delL, ints, rows, scal, wr64, wr8, List.getElem?_cons_zero]
       (repeat' apply And.intro)
       all_goals (try omega)
       refine call_rule (caps := []) (known35M_fn) [] [] 2 (by simp [gd, inPs, inP, upd_b, envOf_nil, envOf_cons, heapOf_nil, heapOf_cons, mkS, argS, callS, heap2, addL, delL, dels, outV, outVs, ASt.eval, AV.ofV, scal, rows, ints]) rfl rfl rfl (by kernel_rfl) (by simp [dstOk]) ?_ trivial trivial rfl trivial trivial (by simp [okO]) ?_
       ·simp [inPs, inP, upd_b, envOf_nil, envOf_cons, heapOf_nil, heapOf_cons, mkS, argS, callS, heap2, addL, delL, dels, outV, outVs, ASt.eval, AV.ofV, scal, rows, ints]
       simp (disch := omega) [KL_ap, KD_ap, awpL_nil, awpL_cons, awpD_nil, awpD_cons, awpOp, awpOpD, wrE, gd, aop, aBuiltin, aNil, aMin, ASt.eval, AV.ofV, dstOk, ASt.app, Eff.heap, dels, upd_b, aLoad, aStore, aField, aFieldV, aIndexAddr, aIndex, aSlice, aSliceO, aLen, aBin, iB, sB, aUn, aConv, aAlloc, aBox, aBuild, afill, avCells, AV.leaf, setR, aBuildSlice, frz, frzL, isOwn, vecOf, tsOf, aMake, srcOf, aAppend, aMkMap, aMapUpd, aLookup, oint, cut, putL, AObj.cnt, mkS, envOf_nil, envOf_cons, heapOf_nil, heapOf_cons, argS, Nat.blt_eq, callS, outV, outVs, outO, heap2, addL, delL, ints, rows, scal, wr64, wr8, List.getElem?_cons_zero]
       (repeat' first | apply hK | apply And.intro) <;> try first | (show okH _ _ _ = true; kernel_rfl) | omega | rfl | (simp <;> omega)
       refine awp_ret ?_
       refine ⟨⟨.inr rfl, _, [], rfl, trivial, trivial, by simp [ghA, ghA1, wkPs, wkP, mkS, argS], ?_⟩, by simp [ghA, ghA1, mkS, argS]⟩
       simp [wkP, wkPs, upd_b, unm, mkS, envOf_nil, envOf_cons, heapOf_nil, heapOf_cons, argS, callS, heap2, addL, delL]
   ·refine awp_cond (b := true) (p := 2) (by simp [ASt.eval, upd_b, mkS, envOf_nil, envOf_cons, callS, outV, outVs, scal] <;> omega) ?_
    rcases he with rfl | rfl
    ·refine awp_seqR fun K hK => ?_
     simp (disch := omega) [KL_ap, KD_ap, awpL_nil, awpL_cons, awpD_nil, awpD_cons, awpOp, awpOpD, wrE, gd, aop, aBuiltin, aNil, aMin, ASt.eval, AV.ofV, dstOk, ASt.app, Eff.heap, dels, upd_b, aLoad, aStore, aField, aFieldV, aIndexAddr, aIndex, aSlice, aSliceO, aLen, aBin, iB, sB, aUn, aConv, aAlloc, aBox, aBuild, afill, avCells, AV.leaf, setR, aBuildSlice, frz, frzL, isOwn, vecOf, tsOf, aMake, srcOf, aAppend, aMkMap, aMapUpd, aLookup, oint, cut, putL, AObj.cnt, mkS, envOf_nil, envOf_cons, heapOf_nil, heapOf_cons, argS, Nat.blt_eq, callS, outV, outVs, outO, heap2, addL, delL, ints, rows, scal, wr64, wr8, List.getElem?_cons_zero]
     (repeat' apply And.intro)
     all_goals (try omega)
     refine call_rule (caps := []) (known35M_fn) [] [] 2 (by simp [gd, inPs, inP, upd_b, envOf_nil, envOf_cons, heapOf_nil, heapOf_cons, mkS, argS, callS, heap2, addL, delL, dels, outV, outVs, ASt.eval, AV.ofV, scal, rows, ints]) rfl rfl rfl (by kernel_rfl) (by simp [dstOk]) ?_ trivial trivial rfl trivial trivial (by simp [okO]) ?_
     ·simp [inPs, inP, upd_b, envOf_nil, envOf_cons, heapOf_nil, heapOf_cons, mkS, argS, callS, heap2, addL, delL, dels, outV, outVs, ASt.eval, AV.ofV, scal, rows, ints]
     simp (disch := omega) [KL_ap, KD_ap, awpL_nil, awpL_cons, awpD_nil, awpD_cons, awpOp, awpOpD, wrE, gd, aop, aBuiltin, aNil, aMin, ASt.eval, AV.ofV, dstOk, ASt.app, Eff.heap, dels, upd_b, aLoad, aStore, aField, aFieldV, aIndexAddr, aIndex, aSlice, aSliceO, aLen, aBin, iB, sB, aUn, aConv, aAlloc, aBox, aBuild, afill, avCells, AV.leaf, setR, aBuildSlice, frz, frzL, isOwn, vecOf, tsOf, aMake, srcOf, aAppend, aMkMap, aMapUpd, aLookup, oint, cut, putL, AObj.cnt, mkS, envOf_nil, envOf_cons, heapOf_nil, heapOf_cons, argS, Nat.blt_eq, callS, outV, outVs, outO, heap2, addL, delL, ints, rows, scal, wr64, wr8, List.getElem?_cons_zero]
     (repeat' first | apply hK | apply And.intro) <;> try first | (show okH _ _ _ = true; kernel_rfl) | omega | rfl | (simp <;> omega)
     refine awp_ret ?_
     refine ⟨⟨.inr rfl, _, [], rfl, trivial, trivial, by simp [ghA, ghA1, wkPs, wkP, mkS, argS], ?_⟩, by simp [ghA, ghA1, mkS, argS]⟩
     simp [wkP, wkPs, upd_b, unm, mkS, envOf_nil, envOf_cons, heapOf_nil, heapOf_cons, argS, callS, heap2, addL, delL]
    ·refine awp_seqR fun K hK => ?_
     simp (disch := omega) [KL_ap, KD_ap, awpL_nil, awpL_cons, awpD_nil, awpD_cons, awpOp, awpOpD, wrE, gd, aop, aBuiltin, aNil, aMin, ASt.eval, AV.ofV, dstOk, ASt.app, Eff.heap, dels, upd_b, aLoad, aStore, aField, aFieldV, aIndexAddr, aIndex, aSlice, aSliceO, aLen, aBin, iB, sB, aUn, aConv, aAlloc, aBox, aBuild, afill, avCells, AV.leaf, setR, aBuildSlice, frz, frzL, isOwn, vecOf, tsOf, aMake, srcOf, aAppend, aMkMap, aMapUpd, aLookup, oint, cut, putL, AObj.cnt, mkS, envOf_nil, envOf_cons, heapOf_nil, heapOf_cons, argS, Nat.blt_eq, callS, outV, outVs, outO, heap2, addL, delL, ints, rows, scal, wr64, wr8, List.getElem?_cons_zero]
     (repeat' apply And.intro)
     all_goals (try omega)
     refine call_rule (caps := []) (known35M_fn) [] [] 2 (by simp [gd, inPs, inP, upd_b, envOf_nil, envOf_cons, heapOf_nil, heapOf_cons, mkS, argS, callS, heap2, addL, delL, dels, outV, outVs, ASt.eval, AV.ofV, scal, rows, ints]) rfl rfl rfl (by kernel_rfl) (by simp [dstOk]) ?_ trivial trivial rfl trivial trivial (by simp [okO]) ?_
     ·simp [inPs, inP, upd_b, envOf_nil, envOf_cons, heapOf_nil, heapOf_cons, mkS, argS, callS, heap2, addL, delL, dels, outV, outVs, ASt.eval, AV.ofV, scal, rows, ints]
     simp (disch := omega) [KL_ap, KD_ap, awpL_nil, awpL_cons, awpD_nil, awpD_cons, awpOp, awpOpD, wrE, gd, aop, aBuiltin, aNil, aMin, ASt.eval, AV.ofV, dstOk, ASt.app, Eff.heap, dels, upd_b, aLoad, aStore, aField, aFieldV, aIndexAddr, aIndex, aSlice, aSliceO, aLen, aBin, iB, sB, aUn, aConv, aAlloc, aBox, aBuild, afill, avCells, AV.leaf, setR, aBuildSlice, frz, frzL, isOwn, vecOf, tsOf, aMake, srcOf, aAppend, aMkMap, aMapUpd, aLookup, oint, cut, putL, AObj.cnt, mkS, envOf_nil, envOf_cons, heapOf_nil, heapOf_cons, argS, Nat.blt_eq, callS, outV, outVs, outO, heap2, addL, delL, ints, rows, scal, wr64, wr8, List.getElem?_cons_zero]
     (repeat' first | apply hK | apply And.intro) <;> try first | (show okH _ _ _ = true; kernel_rfl) | omega | rfl | (simp <;> omega)
     refine awp_ret ?_
     refine ⟨⟨.inr rfl, _, [], rfl, trivial, trivial, by simp [ghA, ghA1, wkPs, wkP, mkS, argS], ?_⟩, by simp [ghA, ghA1, mkS, argS]⟩
     simp [wkP, wkPs, upd_b, unm, mkS, envOf_nil, envOf_cons, heapOf_nil, heapOf_cons, argS, callS, heap2, addL, delL]
  ·refine awp_seqR fun K hK => ?_
   simp (disch := omega) [KL_ap, KD_ap, awpL_nil, awpL_cons, awpD_nil, awpD_cons, awpOp, awpOpD, wrE, gd, aop, aBuiltin, aNil, aMin, ASt.eval, AV.ofV, dstOk, ASt.app, Eff.heap, dels, upd_b, aLoad, aStore, aField, aFieldV, aIndexAddr, aIndex, aSlice, aSliceO, aLen, aBin, iB, sB, aUn, aConv, aAlloc, aBox, aBuild, afill, avCells, AV.leaf, setR, aBuildSlice, frz, frzL, isOwn, vecOf, tsOf, aMake, srcOf, aAppend, aMkMap, aMapUpd, aLookup, oint, cut, putL, AObj.cnt, mkS, envOf_nil, envOf_cons, heapOf_nil, heapOf_cons, argS, Nat.blt_eq, callS, outV, outVs, outO, heap2, addL, delL, ints, rows, scal, wr64, wr8, List.getElem?_cons_zero]
   (repeat' first | apply hK | apply And.intro) <;> try first | (show okH _ _ _ = true; kernel_rfl) | omega | rfl | (simp <;> omega)
   cases left with
   | true =>
    refine awp_cond (b := true) (p := 2) (by simp [ASt.eval, upd_b, mkS, envOf_nil, envOf_cons, callS, outV, outVs, scal] <;> omega) ?_
    refine awp_R fun K hK => ?_
    simp (disch := omega) [KL_ap, KD_ap, awpL_nil, awpL_cons, awpD_nil, awpD_cons, awpOp, awpOpD, wrE, gd, aop, aBuiltin, aNil, aMin, ASt.eval, AV.ofV, dstOk, ASt.app, Eff.heap, dels, upd_b, aLoad, aStore, aField, aFieldV, aIndexAddr, aIndex, aSlice, aSliceO, aLen, aBin, iB, sB, aUn, aConv, aAlloc, aBox, aBuild, afill, avCells, AV.leaf, setR, aBuildSlice, frz, frzL, isOwn, vecOf, tsOf, aMake, srcOf, aAppend, aMkMap, aMapUpd, aLookup, oint, cut, putL, AObj.cnt, mkS, envOf_nil, envOf_cons, heapOf_nil, heapOf_cons, argS, Nat.blt_eq, callS, outV, outVs, outO, heap2, addL, delL, ints, rows, scal, wr64, wr8, List.getElem?_cons_zero, dfO2]
    (repeat' apply And.intro)
    all_goals (try omega)
    refine call_rule (caps := []) (hf1) [] [] 2 rfl rfl rfl rfl (by kernel_rfl) (by simp [dstOk]) ?_ trivial trivial rfl trivial trivial (by simp [okO]) ?_
    ·simp [inPs, inP, upd_b, envOf_nil, envOf_cons, heapOf_nil, heapOf_cons, mkS, argS, callS, heap2, addL, delL, dels, outV, outVs, ASt.eval, AV.ofV, scal, rows, ints, dfT, bools]
    simp (disch := omega) [KL_ap, KD_ap, awpL_nil, awpL_cons, awpD_nil, awpD_cons, awpOp, awpOpD, wrE, gd, aop, aBuiltin, aNil, aMin, ASt.eval, AV.ofV, dstOk, ASt.app, Eff.heap, dels, upd_b, aLoad, aStore, aField, aFieldV, aIndexAddr, aIndex, aSlice, aSliceO, aLen, aBin, iB, sB, aUn, aConv, aAlloc, aBox, aBuild, afill, avCells, AV.leaf, setR, aBuildSlice, frz, frzL, isOwn, vecOf, tsOf, aMake, srcOf, aAppend, aMkMap, aMapUpd, aLookup, oint, cut, putL, AObj.cnt, mkS, envOf_nil, envOf_cons, heapOf_nil, heapOf_cons, argS, Nat.blt_eq, callS, outV, outVs, outO, heap2, addL, delL, ints, rows, scal, wr64, wr8, List.getElem?_cons_zero, monR]
    (repeat' first | apply hK | apply And.intro) <;> try first | (show okH _ _ _ = true; kernel_rfl) | omega | rfl | (simp <;> omega)
    refine ⟨l2, e2, hp2, ?_⟩
    refine wk_list [(0, some 0)] rfl ?_ ?_ ?_ ?_
    all_goals try simp [wkE, wkP, wkPs, wkH, wkO, keysNd, unm, mpOf_nil, mpOf_cons, dels, upd_b, mkS, envOf_nil, envOf_cons, heapOf_nil, heapOf_cons, argS, callS, heap2, addL, delL, outV, outVs, outO, ghA, ghA1, ints, dfO2, rows, bools]
   | false =>
    refine awp_cond (b := false) (p := 2) (by simp [ASt.eval, upd_b, mkS, envOf_nil, envOf_cons, callS, outV, outVs, scal] <;> omega) ?_
    refine awp_skip ?_
    refine ⟨l1, e1, hp1, ?_⟩
    refine wk_list [(0, some 0)] rfl ?_ ?_ ?_ ?_
    all_goals try simp [wkE, wkP, wkPs, wkH, wkO, keysNd, unm, mpOf_nil, mpOf_cons, dels, upd_b, mkS, envOf_nil, envOf_cons, heapOf_nil, heapOf_cons, argS, callS, heap2, addL, delL, outV, outVs, outO, ghA, ghA1, ints, dfO2, rows, bools]
 ·refine awp_seqR fun K hK => ?_
  simp (disch := omega) [KL_ap, KD_ap, awpL_nil, awpL_cons, awpD_nil, awpD_cons, awpOp, awpOpD, wrE, gd, aop, aBuiltin, aNil, aMin, ASt.eval, AV.ofV, dstOk, ASt.app, Eff.heap, dels, upd_b, aLoad, aStore, aField, aFieldV, aIndexAddr, aIndex, aSlice, aSliceO, aLen, aBin, iB, sB, aUn, aConv, aAlloc, aBox, aBuild, afill, avCells, AV.leaf, setR, aBuildSlice, frz, frzL, isOwn, vecOf, tsOf, aMake, srcOf, aAppend, aMkMap, aMapUpd, aLookup, oint, cut, putL, AObj.cnt, mkS, envOf_nil, envOf_cons, heapOf_nil, heapOf_cons, argS, Nat.blt_eq, callS, outV, outVs, outO, heap2, addL, delL, ints, rows, scal, wr64, wr8, List.getElem?_cons_zero]
  (repeat' apply And.intro)
  all_goals (try omega)
  refine call_rule (caps := []) (hnext) [0] [0] 1 rfl rfl rfl rfl (by kernel_rfl) (by simp [dstOk]) ?_ ?_ (by simp [ndL]) rfl (by simp [ndL]) ⟨.inr ⟨rfl, 0, _, _, _, _, _, rfl, rfl, rfl, rfl, rfl⟩, trivial⟩ (by simp [okO, tpO]) ?_
  ·simp [inPs, inP, inOs, inO, ndL, upd_b, envOf_nil, envOf_cons, heapOf_nil, heapOf_cons, mkS, argS, callS, heap2, addL, delL, dels, outV, outVs, outO, ASt.eval, AV.ofV, scal, rows, ints, tpO]
  ·simp [inPs, inP, inOs, inO, ndL, upd_b, envOf_nil, envOf_cons, heapOf_nil, heapOf_cons, mkS, argS, callS, heap2, addL, delL, dels, outV, outVs, outO, ASt.eval, AV.ofV, scal, rows, ints, tpO]
  simp (disch := omega) [KL_ap, KD_ap, awpL_nil, awpL_cons, awpD_nil, awpD_cons, awpOp, awpOpD, wrE, gd, aop, aBuiltin, aNil, aMin, ASt.eval, AV.ofV, dstOk, ASt.app, Eff.heap, dels, upd_b, aLoad, aStore, aField, aFieldV, aIndexAddr, aIndex, aSlice, aSliceO, aLen, aBin, iB, sB, aUn, aConv, aAlloc, aBox, aBuild, afill, avCells, AV.leaf, setR, aBuildSlice, frz, frzL, isOwn, vecOf, tsOf, aMake, srcOf, aAppend, aMkMap, aMapUpd, aLookup, oint, cut, putL, AObj.cnt, mkS, envOf_nil, envOf_cons, heapOf_nil, heapOf_cons, argS, Nat.blt_eq, callS, outV, outVs, outO, heap2, addL, delL, ints, rows, scal, wr64, wr8, List.getElem?_cons_zero, tpO]
  (repeat' first | apply hK | apply And.intro) <;> try first | (show okH _ _ _ = true; kernel_rfl) | omega | rfl | (simp <;> omega)
  by_cases hv1 : v = 1
  ·subst hv1
   refine awp_cond (b := true) (p := 2) (by simp [ASt.eval, upd_b, mkS, envOf_nil, envOf_cons, callS, outV, outVs, scal] <;> omega) ?_
   refine awp_R fun K hK => ?_
   simp (disch := omega) [KL_ap, KD_ap, awpL_nil, awpL_cons, awpD_nil, awpD_cons, awpOp, awpOpD, wrE, gd, aop, aBuiltin, aNil, aMin, ASt.eval, AV.ofV, dstOk, ASt.app, Eff.heap, dels, upd_b, aLoad, aStore, aField, aFieldV, aIndexAddr, aIndex, aSlice, aSliceO, aLen, aBin, iB, sB, aUn, aConv, aAlloc, aBox, aBuild, afill, avCells, AV.leaf, setR, aBuildSlice, frz, frzL, isOwn, vecOf, tsOf, aMake, srcOf, aAppend, aMkMap, aMapUpd, aLookup, oint, cut, putL, AObj.cnt, mkS, envOf_nil, envOf_cons, heapOf_nil, heapOf_cons, argS, Nat.blt_eq, callS, outV, outVs, outO, heap2, addL, delL, ints, rows, scal, wr64, wr8, List.getElem?_cons_zero]
   (repeat' apply And.intro)
   all_goals (try omega)
   refine call_rule (caps := []) (hany) [0] [0] 1 rfl rfl rfl rfl (by kernel_rfl) (by simp [dstOk]) ?_ ?_ (by simp [ndL]) rfl (by simp [ndL]) ⟨.inr ⟨rfl, 0, _, _, _, _, _, rfl, rfl, rfl, rfl, rfl⟩, trivial⟩ (by simp [okO, tpO]) ?_
   ·simp [inPs, inP, inOs, inO, ndL, upd_b, envOf_nil, envOf_cons, heapOf_nil, heapOf_cons, mkS, argS, callS, heap2, addL, delL, dels, outV, outVs, outO, ASt.eval, AV.ofV, scal, rows, ints, tpO, dfT]
   ·simp [inPs, inP, inOs, inO, ndL, upd_b, envOf_nil, envOf_cons, heapOf_nil, heapOf_cons, mkS, argS, callS, heap2, addL, delL, dels, outV, outVs, outO, ASt.eval, AV.ofV, scal, rows, ints, tpO, dfT]
   simp (disch := omega) [KL_ap, KD_ap, awpL_nil, awpL_cons, awpD_nil, awpD_cons, awpOp, awpOpD, wrE, gd, aop, aBuiltin, aNil, aMin, ASt.eval, AV.ofV, dstOk, ASt.app, Eff.heap, dels, upd_b, aLoad, aStore, aField, aFieldV, aIndexAddr, aIndex, aSlice, aSliceO, aLen, aBin, iB, sB, aUn, aConv, aAlloc, aBox, aBuild, afill, avCells, AV.leaf, setR, aBuildSlice, frz, frzL, isOwn, vecOf, tsOf, aMake, srcOf, aAppend, aMkMap, aMapUpd, aLookup, oint, cut, putL, AObj.cnt, mkS, envOf_nil, envOf_cons, heapOf_nil, heapOf_cons, argS, Nat.blt_eq, callS, outV, outVs, outO, heap2, addL, delL, ints, rows, scal, wr64, wr8, List.getElem?_cons_zero, dfT, bools, tpO]
   (repeat' first | apply hK | apply And.intro) <;> try first | (show okH _ _ _ = true; kernel_rfl) | omega | rfl | (simp <;> omega)
   refine ⟨n, s, bs, nxt, by omega, hD, ?_⟩
   refine wk_list [(0, some 6000001)] rfl ?_ ?_ ?_ ?_
   all_goals try simp [wkE, wkP, wkPs, wkH, wkO, keysNd, unm, mpOf_nil, mpOf_cons, dels, upd_b, mkS, envOf_nil, envOf_cons, heapOf_nil, heapOf_cons, argS, callS, heap2, addL, delL, outV, outVs, outO, ghA, ghA1, ints, dfO2, dfT, bools, rows]
  ·have hv2 : ¬ (v : Int) = 1 := by omega
   refine awp_cond (b := false) (p := 2) (by simp [ASt.eval, upd_b, mkS, envOf_nil, envOf_cons, callS, outV, outVs, scal, hv2] <;> omega) ?_
   refine awp_skip ?_
   refine ⟨n2, s2, bs2, nxt2, by omega, hD2, ?_⟩
   refine wk_list [(0, some 6000001)] rfl ?_ ?_ ?_ ?_
   all_goals try simp [wkE, wkP, wkPs, wkH, wkO, keysNd, unm, mpOf_nil, mpOf_cons, dels, upd_b, mkS, envOf_nil, envOf_cons, heapOf_nil, heapOf_cons, argS, callS, heap2, addL, delL, outV, outVs, outO, ghA, ghA1, ints, dfO2, dfT, bools, rows]
end Go.Proofs.YtnffigeofdagfaaDoor.M
