/-
  Walks in my logic: Deterministic, Codeterministic, targets (monomial).
-/
import Derived.Test.YtnffigeofdagfaaDoorZraq
import Derived.Test.YtnffigeofdagfaaDoorZrah
namespace Go.Proofs.YtnffigeofdagfaaDoor.M
open Go.RowKit
set_option linter.unusedVariables false
attribute [local simp] KL_ap KD_ap awpL_nil awpL_cons awpD_nil awpD_cons awpOp awpOpD wrE gd aop aBuiltin aNil aMin ASt.eval AV.ofV dstOk ASt.app Eff.heap dels upd_b aLoad aStore aField aFieldV aIndexAddr aIndex aSlice aSliceO aLen aBin iB sB aUn aConv aAlloc aBox aBuild afill avCells AV.leaf setR aBuildSlice frz frzL isOwn vecOf tsOf aMake srcOf aAppend aMkMap aMapUpd aLookup oint cut putL AObj.cnt mkS envOf_nil envOf_cons heapOf_nil heapOf_cons argS Nat.blt_eq callS outV outVs outO heap2 addL delL List.getElem?_cons_zero okO inPs inP wkE wkP wkPs wkH wkO keysNd unm mpOf_nil mpOf_cons ghA ghA1
set_option linter.unusedSimpArgs false

theorem andI64_1 {y : Nat} (hy : y < 9223372036854775808) : andI .i64 (y : Int) 1 = ((y % 2 : Nat) : Int) := by
 unfold andI
 have b1 : (BitVec.ofInt IntKind.i64.bits (y : Int)).toNat = y := by
  show (BitVec.ofInt 64 (y : Int)).toNat = y
  rw [BitVec.toNat_ofInt]; omega
 have b2 : (BitVec.ofInt IntKind.i64.bits (1 : Int)).toNat = 1 := by
  show (BitVec.ofInt 64 (1 : Int)).toNat = 1
  rw [BitVec.toNat_ofInt]; omega
 rw [BitVec.toNat_and, b1, b2, Nat.and_one_is_mod, wrN64 (by omega)]
theorem bit_ltP {x a : Nat} (hx : x < 9223372036854775808) : x / 2 ^ a < 9223372036854775808 := Nat.lt_of_le_of_lt (Nat.div_le_self _ _) hx
theorem bit_of {x a : Nat} : (x / 2 ^ a % 2 = 1) = (x.testBit a = true) := by
 rw [Nat.testBit_eq_decide_div_mod_eq]; simp
theorem bit_ask {x a : Nat} (hx : x < 64) (ha : a ≤ 64) : ∃ y : Nat, shrI .i64 (x : Int) (a : Int) = y ∧ andI .i64 (y : Int) 1 = (if x.testBit a then 1 else 0) := by
 refine ⟨x / 2 ^ a, shrN (by show a ≤ 64; exact ha), ?_⟩
 rw [andI64_1 (bit_ltP (by omega))]
 by_cases h : x.testBit a = true
 ·rw [if_pos h]; rw [← bit_of] at h; omega
 ·rw [if_neg h]; rw [← bit_of] at h; omega
theorem set64 {m : Mo} {n : Nat} (h : MoOK 6 n m) {i : Nat} (hi : i < m.1.length) : m.1[i] < 64 := h.sv _ (by simp)
theorem let6 {m : Mo} {n : Nat} (h : MoOK 6 n m) {i : Nat} (hi : i < m.2.length) : m.2[i] < 6 := h.lv _ (by simp)
set_option maxRecDepth 100000 in
set_option maxHeartbeats 4000000 in
theorem determ_fn {m : Mo} (h : MoOK 6 60 m) (hd : ∀ k (h1 : k < m.1.length) (h2 : k < m.2.length), m.1[k].testBit m.2[k] = false) : FnA Tryd.prog 28 [moV 0 m] (.t 2 (.bool true)) := by
 have hs := h.sl
 have hl := h.ll
 have hval := mvalidate_fn h (by omega) (by omega)
 refine fn_intro Tryd.func28 rfl (by simp [Tryd.f28]) ?_
 rw [show Tryd.f28.ntmps = 26 from rfl, show Tryd.f28.results = #[.tmp 2] from rfl]
 refine awp_seqR fun K hK => ?_
 simp (disch := omega) [ints, rows, scal, wr64, wr8, moV]
 (repeat' first | apply hK | apply And.intro) <;> try first | (show okH _ _ _ = true; kernel_rfl) | omega | rfl | (simp <;> omega)
 refine awp_seq ?_
 refine awp_seqR fun K hK => ?_
 simp (disch := omega) [ints, rows, scal, wr64, wr8]
 (repeat' apply And.intro)
 all_goals (try omega)
 refine call_rule (caps := []) (hval) [] [] 2 rfl rfl rfl rfl (by kernel_rfl) (by simp) ?_ trivial trivial rfl trivial trivial (by simp) ?_
 ·simp [scal, rows, ints, moV]
 simp (disch := omega) [ints, rows, scal, wr64, wr8]
 (repeat' first | apply hK | apply And.intro) <;> try first | (show okH _ _ _ = true; kernel_rfl) | omega | rfl | (simp <;> omega)
 refine awp_cond (b := false) (p := 2) (by simp [scal] <;> omega) ?_
 refine awp_skip ?_
 show awp _ _ _ _
 refine awp_seq ?_
 refine awp_seqR fun K hK => ?_
 simp (disch := omega) [ints, rows, scal, wr64, wr8]
 (repeat' first | apply hK | apply And.intro) <;> try first | (show okH _ _ _ = true; kernel_rfl) | omega | rfl | (simp <;> omega)
 refine awp_block ?_
 refine awp_loop (fun k : Nat => mkS [(1, .ptr 0 0 2), (9, .t 0 (ints (nI m.2))), (10, .t 2 (.int .i64 m.2.length)), (11, .t 2 (.int .i64 k))] [(0, .box 37 [.t 0 (ints (nI m.1)), .t 0 (ints (nI m.2))])] 1 26 [.any]) (fun k => k ≤ m.2.length) (fun k => m.2.length - k) ?_ ?_
 ·refine ⟨0, by omega, ?_⟩
  refine wk_list [(0, some 0)] rfl ?_ ?_ ?_ ?_
  all_goals try simp [ints]
 intro k hk
 refine awp_seqR fun K hK => ?_
 simp (disch := omega) [ints, rows, scal, wr64, wr8]
 (repeat' first | apply hK | apply And.intro) <;> try first | (show okH _ _ _ = true; kernel_rfl) | omega | rfl | (simp <;> omega)
 refine awp_seq ?_
 by_cases hkl : k < m.2.length
 ·have g1 : (nI m.2)[k]? = some (m.2[k] : Int) := nI_get hkl
  have hk1 : k < m.1.length := by omega
  have g2 : (nI m.1)[k]? = some (m.1[k] : Int) := nI_get hk1
  have ha := let6 h hkl
  obtain ⟨y, y1, y2⟩ := bit_ask (a := m.2[k]) (set64 h hk1) (by omega)
  rw [hd k hk1 hkl, if_neg (by simp)] at y2
  refine awp_cond (b := true) (p := 2) (by simp [scal, hkl] <;> omega) ?_
  refine awp_skip ?_
  show awp _ _ _ _
  refine awp_seq ?_
  refine awp_block ?_
  refine awp_seqR fun K hK => ?_
  simp (disch := omega) [ints, rows, scal, wr64, wr8, g1, hkl]
  (repeat' first | apply hK | apply And.intro) <;> try first | (show okH _ _ _ = true; kernel_rfl) | omega | rfl | (simp <;> omega)
  refine awp_seqR fun K hK => ?_
  simp (disch := omega) [ints, rows, scal, wr64, wr8, g2, hk1, y1, y2]
  (repeat' first | apply hK | apply And.intro) <;> try first | (show okH _ _ _ = true; kernel_rfl) | omega | rfl | (simp <;> omega)
  refine awp_cond (b := false) (p := 2) (by simp [scal] <;> omega) ?_
  refine awp_skip ?_
  show awp _ _ _ _
  refine awp_R fun K hK => ?_
  simp (disch := omega) [ints, rows, scal, wr64, wr8]
  (repeat' first | apply hK | apply And.intro) <;> try first | (show okH _ _ _ = true; kernel_rfl) | omega | rfl | (simp <;> omega)
  refine ⟨k + 1, by omega, by omega, ?_⟩
  refine wk_list [(0, some 0)] rfl ?_ ?_ ?_ ?_
  all_goals try simp [ints]
 ·refine awp_cond (b := false) (p := 2) (by simp [scal, hkl] <;> omega) ?_
  refine awp_exit ?_
  show awp _ _ _ _
  refine awp_seqR fun K hK => ?_
  simp (disch := omega) [ints, rows, scal, wr64, wr8]
  (repeat' first | apply hK | apply And.intro) <;> try first | (show okH _ _ _ = true; kernel_rfl) | omega | rfl | (simp <;> omega)
  refine awp_ret ?_
  refine ⟨⟨.inr rfl, _, [], rfl, trivial, trivial, by simp [moV], ?_⟩, by simp [moV]⟩
  simp [moV]
set_option maxRecDepth 100000 in
set_option maxHeartbeats 4000000 in
theorem codeterm_fn {m : Mo} (h : MoOK 6 60 m) (hd : ∀ k (h1 : k + 1 < m.1.length) (h2 : k < m.2.length), m.1[k + 1].testBit m.2[k] = false) : FnA Tryd.prog 29 [moV 0 m] (.t 2 (.bool true)) := by
 have hs := h.sl
 have hl := h.ll
 have hval := mvalidate_fn h (by omega) (by omega)
 refine fn_intro Tryd.func29 rfl (by simp [Tryd.f29]) ?_
 rw [show Tryd.f29.ntmps = 27 from rfl, show Tryd.f29.results = #[.tmp 2] from rfl]
 refine awp_seqR fun K hK => ?_
 simp (disch := omega) [ints, rows, scal, wr64, wr8, moV]
 (repeat' first | apply hK | apply And.intro) <;> try first | (show okH _ _ _ = true; kernel_rfl) | omega | rfl | (simp <;> omega)
 refine awp_seq ?_
 refine awp_seqR fun K hK => ?_
 simp (disch := omega) [ints, rows, scal, wr64, wr8]
 (repeat' apply And.intro)
 all_goals (try omega)
 refine call_rule (caps := []) (hval) [] [] 2 rfl rfl rfl rfl (by kernel_rfl) (by simp) ?_ trivial trivial rfl trivial trivial (by simp) ?_
 ·simp [scal, rows, ints, moV]
 simp (disch := omega) [ints, rows, scal, wr64, wr8]
 (repeat' first | apply hK | apply And.intro) <;> try first | (show okH _ _ _ = true; kernel_rfl) | omega | rfl | (simp <;> omega)
 refine awp_cond (b := false) (p := 2) (by simp [scal] <;> omega) ?_
 refine awp_skip ?_
 show awp _ _ _ _
 refine awp_seq ?_
 refine awp_seqR fun K hK => ?_
 simp (disch := omega) [ints, rows, scal, wr64, wr8]
 (repeat' first | apply hK | apply And.intro) <;> try first | (show okH _ _ _ = true; kernel_rfl) | omega | rfl | (simp <;> omega)
 refine awp_block ?_
 refine awp_loop (fun k : Nat => mkS [(1, .ptr 0 0 2), (9, .t 0 (ints (nI m.2))), (10, .t 2 (.int .i64 m.2.length)), (11, .t 2 (.int .i64 k))] [(0, .box 37 [.t 0 (ints (nI m.1)), .t 0 (ints (nI m.2))])] 1 27 [.any]) (fun k => k ≤ m.2.length) (fun k => m.2.length - k) ?_ ?_
 ·refine ⟨0, by omega, ?_⟩
  refine wk_list [(0, some 0)] rfl ?_ ?_ ?_ ?_
  all_goals try simp [ints]
 intro k hk
 refine awp_seqR fun K hK => ?_
 simp (disch := omega) [ints, rows, scal, wr64, wr8]
 (repeat' first | apply hK | apply And.intro) <;> try first | (show okH _ _ _ = true; kernel_rfl) | omega | rfl | (simp <;> omega)
 refine awp_seq ?_
 by_cases hkl : k < m.2.length
 ·have g1 : (nI m.2)[k]? = some (m.2[k] : Int) := nI_get hkl
  have hk1 : k + 1 < m.1.length := by omega
  have g2 : (nI m.1)[k + 1]? = some (m.1[k + 1] : Int) := nI_get hk1
  have ha := let6 h hkl
  obtain ⟨y, y1, y2⟩ := bit_ask (a := m.2[k]) (set64 h hk1) (by omega)
  rw [hd k hk1 hkl, if_neg (by simp)] at y2
  refine awp_cond (b := true) (p := 2) (by simp [scal, hkl] <;> omega) ?_
  refine awp_skip ?_
  show awp _ _ _ _
  refine awp_seq ?_
  refine awp_block ?_
  refine awp_seqR fun K hK => ?_
  simp (disch := omega) [ints, rows, scal, wr64, wr8, g1, hkl]
  (repeat' first | apply hK | apply And.intro) <;> try first | (show okH _ _ _ = true; kernel_rfl) | omega | rfl | (simp <;> omega)
  refine awp_seqR fun K hK => ?_
  simp (disch := omega) [ints, rows, scal, wr64, wr8, g2, hk1, y1, y2]
  (repeat' first | apply hK | apply And.intro) <;> try first | (show okH _ _ _ = true; kernel_rfl) | omega | rfl | (simp <;> omega)
  refine awp_cond (b := false) (p := 2) (by simp [scal] <;> omega) ?_
  refine awp_skip ?_
  show awp _ _ _ _
  refine awp_R fun K hK => ?_
  simp (disch := omega) [ints, rows, scal, wr64, wr8]
  (repeat' first | apply hK | apply And.intro) <;> try first | (show okH _ _ _ = true; kernel_rfl) | omega | rfl | (simp <;> omega)
  refine ⟨k + 1, by omega, by omega, ?_⟩
  refine wk_list [(0, some 0)] rfl ?_ ?_ ?_ ?_
  all_goals try simp [ints]
 ·refine awp_cond (b := false) (p := 2) (by simp [scal, hkl] <;> omega) ?_
  refine awp_exit ?_
  show awp _ _ _ _
  refine awp_seqR fun K hK => ?_
  simp (disch := omega) [ints, rows, scal, wr64, wr8]
  (repeat' first | apply hK | apply And.intro) <;> try first | (show okH _ _ _ = true; kernel_rfl) | omega | rfl | (simp <;> omega)
  refine awp_ret ?_
  refine ⟨⟨.inr rfl, _, [], rfl, trivial, trivial, by simp [moV], ?_⟩, by simp [moV]⟩
  simp [moV]
def tgM (m : Mo) (p a : Nat) : List Nat := (if (m.1.getD p 0).testBit a then [p] else []) ++ (if p < m.2.length ∧ m.2.getD p 0 = a then [p + 1] else [])
theorem FnS.resM {P : Program} {f : FuncId} {args : List AV} {H H' : List AObj} {r r' : AV} (h : FnS P f args H r H') (hr : ∀ E v, VR E v r → VR E v r') : FnS P f args H r' H' := fun w V ob vs hm hn hv => (h w V ob vs hm hn hv).mono fun e w' ⟨v, ob', h1, h2, h3, h4⟩ => ⟨v, ob', h1, h2, hr _ _ h3, h4⟩
theorem nilzM {E : Ev} {v : Value} {p : Nat} (h : VR E v (.t p (.sl 0 []))) (z : Nat) : VR E v (.t p (.sl z [])) := by
 have := h.rep
 cases this with
 | nil => exact .t _ _ _ (.nil z)
 | emp a hz => omega
 | sl b o n cap z cs vs hz => omega
set_option maxRecDepth 100000 in
set_option maxHeartbeats 4000000 in
theorem targets_fn {m : Mo} (h : MoOK 6 60 m) {p a : Nat} (hp : p < m.1.length) (ha : a < 6) : FnA Tryd.prog 100 [moV 0 m, .t 2 (.int .i64 p), .t 2 (.int .i64 a)] (.t 2 (ints (nI (tgM m p a)))) := by
 have hs := h.sl
 have hl := h.ll
 have g1 : (nI m.1)[p]? = some (m.1[p] : Int) := nI_get hp
 have e1 : m.1.getD p 0 = m.1[p] := by rw [List.getD_eq_getElem?_getD, List.getElem?_eq_getElem hp]; rfl
 obtain ⟨y, y1, y2⟩ := bit_ask (a := a) (set64 h hp) (by omega)
 by_cases hb : m.1[p].testBit a = true
 ·rw [if_pos hb] at y2
  by_cases hq : p < m.2.length
  ·have g2 : (nI m.2)[p]? = some (m.2[p] : Int) := nI_get hq
   have e2 : m.2.getD p 0 = m.2[p] := by rw [List.getD_eq_getElem?_getD, List.getElem?_eq_getElem hq]; rfl
   by_cases hx : m.2[p] = a
   ·have et : tgM m p a = [p, p + 1] := by unfold tgM; rw [e1, e2, if_pos hb, if_pos ⟨hq, hx⟩]; rfl
    have x1 : ((m.2[p] : Int) == (a : Int)) = true := by rw [hx]; simp
    rw [et]
    refine fn_intro Tryd.func100 rfl (by simp [Tryd.f100]) ?_
    rw [show Tryd.f100.ntmps = 41 from rfl, show Tryd.f100.results = #[.tmp 6] from rfl]
    refine awp_seqR fun K hK => ?_
    simp (disch := omega) [ints, rows, scal, wr64, wr8, moV]
    (repeat' first | apply hK | apply And.intro) <;> try first | (show okH _ _ _ = true; kernel_rfl) | omega | rfl | (simp <;> omega)
    refine awp_seqR fun K hK => ?_
    simp (disch := omega) [ints, rows, scal, wr64, wr8]
    (repeat' first | apply hK | apply And.intro) <;> try first | (show okH _ _ _ = true; kernel_rfl) | omega | rfl | (simp <;> omega)
    refine awp_seq ?_
    refine awp_seqR fun K hK => ?_
    simp (disch := omega) [ints, rows, scal, wr64, wr8, g1, hp, y1, y2]
    (repeat' first | apply hK | apply And.intro) <;> try first | (show okH _ _ _ = true; kernel_rfl) | omega | rfl | (simp <;> omega)
    refine awp_cond (b := true) (p := 2) (by simp [scal] <;> omega) ?_
    refine awp_R fun K hK => ?_
    simp (disch := omega) [ints, rows, scal, wr64, wr8]
    (repeat' first | apply hK | apply And.intro) <;> try first | (show okH _ _ _ = true; kernel_rfl) | omega | rfl | (simp <;> omega)
    show awp _ _ _ _
    refine awp_seq ?_
    refine awp_seqR fun K hK => ?_
    simp (disch := omega) [ints, rows, scal, wr64, wr8, hq, g2, x1]
    (repeat' first | apply hK | apply And.intro) <;> try first | (show okH _ _ _ = true; kernel_rfl) | omega | rfl | (simp <;> omega)
    refine awp_cond (b := true) (p := 2) (by simp [scal, hx] <;> omega) ?_
    refine awp_R fun K hK => ?_
    simp (disch := omega) [ints, rows, scal, wr64, wr8]
    (repeat' first | apply hK | apply And.intro) <;> try first | (show okH _ _ _ = true; kernel_rfl) | omega | rfl | (simp <;> omega)
    show awp _ _ _ _
    refine awp_seqR fun K hK => ?_
    simp (disch := omega) [ints, rows, scal, wr64, wr8]
    (repeat' first | apply hK | apply And.intro) <;> try first | (show okH _ _ _ = true; kernel_rfl) | omega | rfl | (simp <;> omega)
    refine awp_ret ?_
    refine ⟨⟨.inr rfl, _, [], rfl, trivial, trivial, by simp [moV, nI, ints], ?_⟩, by simp [moV, nI, ints]⟩
    simp [moV, nI, ints]
   ·have et : tgM m p a = [p] := by unfold tgM; rw [e1, e2, if_pos hb, if_neg (fun h => hx h.2)]; rfl
    have x1 : ((m.2[p] : Int) == (a : Int)) = false := beq_eq_false_iff_ne.2 (by omega)
    rw [et]
    refine fn_intro Tryd.func100 rfl (by simp [Tryd.f100]) ?_
    rw [show Tryd.f100.ntmps = 41 from rfl, show Tryd.f100.results = #[.tmp 6] from rfl]
    refine awp_seqR fun K hK => ?_
    simp (disch := omega) [ints, rows, scal, wr64, wr8, moV]
    (repeat' first | apply hK | apply And.intro) <;> try first | (show okH _ _ _ = true; kernel_rfl) | omega | rfl | (simp <;> omega)
    refine awp_seqR fun K hK => ?_
    simp (disch := omega) [ints, rows, scal, wr64, wr8]
    (repeat' first | apply hK | apply And.intro) <;> try first | (show okH _ _ _ = true; kernel_rfl) | omega | rfl | (simp <;> omega)
    refine awp_seq ?_
    refine awp_seqR fun K hK => ?_
    simp (disch := omega) [ints, rows, scal, wr64, wr8, g1, hp, y1, y2]
    (repeat' first | apply hK | apply And.intro) <;> try first | (show okH _ _ _ = true; kernel_rfl) | omega | rfl | (simp <;> omega)
    refine awp_cond (b := true) (p := 2) (by simp [scal] <;> omega) ?_
    refine awp_R fun K hK => ?_
    simp (disch := omega) [ints, rows, scal, wr64, wr8]
    (repeat' first | apply hK | apply And.intro) <;> try first | (show okH _ _ _ = true; kernel_rfl) | omega | rfl | (simp <;> omega)
    show awp _ _ _ _
    refine awp_seq ?_
    refine awp_seqR fun K hK => ?_
    simp (disch := omega) [ints, rows, scal, wr64, wr8, hq, g2, x1]
    (repeat' first | apply hK | apply And.intro) <;> try first | (show okH _ _ _ = true; kernel_rfl) | omega | rfl | (simp <;> omega)
    refine awp_cond (b := false) (p := 2) (by simp [scal, hx] <;> omega) ?_
    refine awp_skip ?_
    show awp _ _ _ _
    refine awp_seqR fun K hK => ?_
    simp (disch := omega) [ints, rows, scal, wr64, wr8]
    (repeat' first | apply hK | apply And.intro) <;> try first | (show okH _ _ _ = true; kernel_rfl) | omega | rfl | (simp <;> omega)
    refine awp_ret ?_
    refine ⟨⟨.inr rfl, _, [], rfl, trivial, trivial, by simp [moV, nI, ints], ?_⟩, by simp [moV, nI, ints]⟩
    simp [moV, nI, ints]
  ·have et : tgM m p a = [p] := by unfold tgM; rw [e1, if_pos hb, if_neg (fun h => hq h.1)]; rfl
   rw [et]
   refine fn_intro Tryd.func100 rfl (by simp [Tryd.f100]) ?_
   rw [show Tryd.f100.ntmps = 41 from rfl, show Tryd.f100.results = #[.tmp 6] from rfl]
   refine awp_seqR fun K hK => ?_
   simp (disch := omega) [ints, rows, scal, wr64, wr8, moV]
   (repeat' first | apply hK | apply And.intro) <;> try first | (show okH _ _ _ = true; kernel_rfl) | omega | rfl | (simp <;> omega)
   refine awp_seqR fun K hK => ?_
   simp (disch := omega) [ints, rows, scal, wr64, wr8]
   (repeat' first | apply hK | apply And.intro) <;> try first | (show okH _ _ _ = true; kernel_rfl) | omega | rfl | (simp <;> omega)
   refine awp_seq ?_
   refine awp_seqR fun K hK => ?_
   simp (disch := omega) [ints, rows, scal, wr64, wr8, g1, hp, y1, y2]
   (repeat' first | apply hK | apply And.intro) <;> try first | (show okH _ _ _ = true; kernel_rfl) | omega | rfl | (simp <;> omega)
   refine awp_cond (b := true) (p := 2) (by simp [scal] <;> omega) ?_
   refine awp_R fun K hK => ?_
   simp (disch := omega) [ints, rows, scal, wr64, wr8]
   (repeat' first | apply hK | apply And.intro) <;> try first | (show okH _ _ _ = true; kernel_rfl) | omega | rfl | (simp <;> omega)
   show awp _ _ _ _
   refine awp_seq ?_
   refine awp_seqR fun K hK => ?_
   simp (disch := omega) [ints, rows, scal, wr64, wr8, hq]
   (repeat' first | apply hK | apply And.intro) <;> try first | (show okH _ _ _ = true; kernel_rfl) | omega | rfl | (simp <;> omega)
   refine awp_cond (b := false) (p := 2) (by simp [scal, hq] <;> omega) ?_
   refine awp_skip ?_
   show awp _ _ _ _
   refine awp_seqR fun K hK => ?_
   simp (disch := omega) [ints, rows, scal, wr64, wr8]
   (repeat' first | apply hK | apply And.intro) <;> try first | (show okH _ _ _ = true; kernel_rfl) | omega | rfl | (simp <;> omega)
   refine awp_ret ?_
   refine ⟨⟨.inr rfl, _, [], rfl, trivial, trivial, by simp [moV, nI, ints], ?_⟩, by simp [moV, nI, ints]⟩
   simp [moV, nI, ints]
 ·rw [if_neg hb] at y2
  by_cases hq : p < m.2.length
  ·have g2 : (nI m.2)[p]? = some (m.2[p] : Int) := nI_get hq
   have e2 : m.2.getD p 0 = m.2[p] := by rw [List.getD_eq_getElem?_getD, List.getElem?_eq_getElem hq]; rfl
   by_cases hx : m.2[p] = a
   ·have et : tgM m p a = [p + 1] := by unfold tgM; rw [e1, e2, if_neg hb, if_pos ⟨hq, hx⟩]; rfl
    have x1 : ((m.2[p] : Int) == (a : Int)) = true := by rw [hx]; simp
    rw [et]
    refine fn_intro Tryd.func100 rfl (by simp [Tryd.f100]) ?_
    rw [show Tryd.f100.ntmps = 41 from rfl, show Tryd.f100.results = #[.tmp 6] from rfl]
    refine awp_seqR fun K hK => ?_
    simp (disch := omega) [ints, rows, scal, wr64, wr8, moV]
    (repeat' first | apply hK | apply And.intro) <;> try first | (show okH _ _ _ = true; kernel_rfl) | omega | rfl | (simp <;> omega)
    refine awp_seqR fun K hK => ?_
    simp (disch := omega) [ints, rows, scal, wr64, wr8]
    (repeat' first | apply hK | apply And.intro) <;> try first | (show okH _ _ _ = true; kernel_rfl) | omega | rfl | (simp <;> omega)
    refine awp_seq ?_
    refine awp_seqR fun K hK => ?_
    simp (disch := omega) [ints, rows, scal, wr64, wr8, g1, hp, y1, y2]
    (repeat' first | apply hK | apply And.intro) <;> try first | (show okH _ _ _ = true; kernel_rfl) | omega | rfl | (simp <;> omega)
    refine awp_cond (b := false) (p := 2) (by simp [scal] <;> omega) ?_
    refine awp_skip ?_
    show awp _ _ _ _
    refine awp_seq ?_
    refine awp_seqR fun K hK => ?_
    simp (disch := omega) [ints, rows, scal, wr64, wr8, hq, g2, x1]
    (repeat' first | apply hK | apply And.intro) <;> try first | (show okH _ _ _ = true; kernel_rfl) | omega | rfl | (simp <;> omega)
    refine awp_cond (b := true) (p := 2) (by simp [scal, hx] <;> omega) ?_
    refine awp_R fun K hK => ?_
    simp (disch := omega) [ints, rows, scal, wr64, wr8]
    (repeat' first | apply hK | apply And.intro) <;> try first | (show okH _ _ _ = true; kernel_rfl) | omega | rfl | (simp <;> omega)
    show awp _ _ _ _
    refine awp_seqR fun K hK => ?_
    simp (disch := omega) [ints, rows, scal, wr64, wr8]
    (repeat' first | apply hK | apply And.intro) <;> try first | (show okH _ _ _ = true; kernel_rfl) | omega | rfl | (simp <;> omega)
    refine awp_ret ?_
    refine ⟨⟨.inr rfl, _, [], rfl, trivial, trivial, by simp [moV, nI, ints], ?_⟩, by simp [moV, nI, ints]⟩
    simp [moV, nI, ints]
   ·have et : tgM m p a = [] := by unfold tgM; rw [e1, e2, if_neg hb, if_neg (fun h => hx h.2)]; rfl
    have x1 : ((m.2[p] : Int) == (a : Int)) = false := beq_eq_false_iff_ne.2 (by omega)
    rw [et]
    refine FnS.resM (r := .t 2 (.sl 0 [])) ?_ (fun E v hv => nilzM hv 1)
    refine fn_intro Tryd.func100 rfl (by simp [Tryd.f100]) ?_
    rw [show Tryd.f100.ntmps = 41 from rfl, show Tryd.f100.results = #[.tmp 6] from rfl]
    refine awp_seqR fun K hK => ?_
    simp (disch := omega) [ints, rows, scal, wr64, wr8, moV]
    (repeat' first | apply hK | apply And.intro) <;> try first | (show okH _ _ _ = true; kernel_rfl) | omega | rfl | (simp <;> omega)
    refine awp_seqR fun K hK => ?_
    simp (disch := omega) [ints, rows, scal, wr64, wr8]
    (repeat' first | apply hK | apply And.intro) <;> try first | (show okH _ _ _ = true; kernel_rfl) | omega | rfl | (simp <;> omega)
    refine awp_seq ?_
    refine awp_seqR fun K hK => ?_
    simp (disch := omega) [ints, rows, scal, wr64, wr8, g1, hp, y1, y2]
    (repeat' first | apply hK | apply And.intro) <;> try first | (show okH _ _ _ = true; kernel_rfl) | omega | rfl | (simp <;> omega)
    refine awp_cond (b := false) (p := 2) (by simp [scal] <;> omega) ?_
    refine awp_skip ?_
    show awp _ _ _ _
    refine awp_seq ?_
    refine awp_seqR fun K hK => ?_
    simp (disch := omega) [ints, rows, scal, wr64, wr8, hq, g2, x1]
    (repeat' first | apply hK | apply And.intro) <;> try first | (show okH _ _ _ = true; kernel_rfl) | omega | rfl | (simp <;> omega)
    refine awp_cond (b := false) (p := 2) (by simp [scal, hx] <;> omega) ?_
    refine awp_skip ?_
    show awp _ _ _ _
    refine awp_seqR fun K hK => ?_
    simp (disch := omega) [ints, rows, scal, wr64, wr8]
    (repeat' first | apply hK | apply And.intro) <;> try first | (show okH _ _ _ = true; kernel_rfl) | omega | rfl | (simp <;> omega)
    refine awp_ret ?_
    refine ⟨⟨.inr rfl, _, [], rfl, trivial, trivial, by simp [moV, nI, ints], ?_⟩, by simp [moV, nI, ints]⟩
    simp [moV, nI, ints]
  ·have et : tgM m p a = [] := by unfold tgM; rw [e1, if_neg hb, if_neg (fun h => hq h.1)]; rfl
   rw [et]
   refine FnS.resM (r := .t 2 (.sl 0 [])) ?_ (fun E v hv => nilzM hv 1)
   refine fn_intro Tryd.func100 rfl (by simp [Tryd.f100]) ?_
   rw [show Tryd.f100.ntmps = 41 from rfl, show Tryd.f100.results = #[.tmp 6] from rfl]
   refine awp_seqR fun K hK => ?_
   simp (disch := omega) [ints, rows, scal, wr64, wr8, moV]
   (repeat' first | apply hK | apply And.intro) <;> try first | (show okH _ _ _ = true; kernel_rfl) | omega | rfl | (simp <;> omega)
   refine awp_seqR fun K hK => ?_
   simp (disch := omega) [ints, rows, scal, wr64, wr8]
   (repeat' first | apply hK | apply And.intro) <;> try first | (show okH _ _ _ = true; kernel_rfl) | omega | rfl | (simp <;> omega)
   refine awp_seq ?_
   refine awp_seqR fun K hK => ?_
   simp (disch := omega) [ints, rows, scal, wr64, wr8, g1, hp, y1, y2]
   (repeat' first | apply hK | apply And.intro) <;> try first | (show okH _ _ _ = true; kernel_rfl) | omega | rfl | (simp <;> omega)
   refine awp_cond (b := false) (p := 2) (by simp [scal] <;> omega) ?_
   refine awp_skip ?_
   show awp _ _ _ _
   refine awp_seq ?_
   refine awp_seqR fun K hK => ?_
   simp (disch := omega) [ints, rows, scal, wr64, wr8, hq]
   (repeat' first | apply hK | apply And.intro) <;> try first | (show okH _ _ _ = true; kernel_rfl) | omega | rfl | (simp <;> omega)
   refine awp_cond (b := false) (p := 2) (by simp [scal, hq] <;> omega) ?_
   refine awp_skip ?_
   show awp _ _ _ _
   refine awp_seqR fun K hK => ?_
   simp (disch := omega) [ints, rows, scal, wr64, wr8]
   (repeat' first | apply hK | apply And.intro) <;> try first | (show okH _ _ _ = true; kernel_rfl) | omega | rfl | (simp <;> omega)
   refine awp_ret ?_
   refine ⟨⟨.inr rfl, _, [], rfl, trivial, trivial, by simp [moV, nI, ints], ?_⟩, by simp [moV, nI, ints]⟩
   simp [moV, nI, ints]
end Go.Proofs.YtnffigeofdagfaaDoor.M
