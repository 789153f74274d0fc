/-
  Walks in my logic: Words, Definite.
-/
import Derived.Test.YtnffigeofdagfaaDoorZral
namespace Go.Proofs.YtnffigeofdagfaaDoor.M
open Go.RowKit
set_option linter.unusedVariables false
set_option linter.unusedSimpArgs false

def wc (L most : Nat) : Nat := if most = 1 then 1 else 1 + L
structure WsI (L most : Nat) (ws : List (List Nat)) (i a : Nat) : Prop where
 le : i ≤ ws.length
 len : ws.length = 1 + L * min i (wc L most) + a
 ln : ∀ (j : Nat) w, ws[j]? = some w → w.length = if j = 0 then 0 else if j ≤ L then 1 else 2
 lt : ∀ w ∈ ws, ∀ x ∈ w, x < L
 zero : ws[0]? = some []
 cl : ∀ (j : Nat) w, j < i → ws[j]? = some w → w.length < most → ∀ x, x < L → w ++ [x] ∈ ws
theorem WsI.start {L most : Nat} : WsI L most [[]] 0 0 :=
 ⟨by simp, by simp, fun j w h => by cases j <;> simp at h; subst h; rfl, fun w hw x hx => by simp at hw; subst hw; simp at hx, rfl, fun j w h => by omega⟩
def wsT (ws : List (List Nat)) : List T := ws.map fun w => .str (strL w)
theorem strL_nil : strL [] = ⟨#[]⟩ := rfl
theorem strL_one {x : Nat} (hx : x ≤ 20) : bytesT [T.int IntKind.u8 (97 + (x : Int))] = strL [x] := by
 have : (97 + (x : Int)).toNat = 97 + x := by omega
 simp [bytesT, u8n, strL, this]
 rfl
theorem WsI.add {L most : Nat} {ws : List (List Nat)} {i a : Nat} (hL : L = 1 ∨ L = 2) (hm : most = 1 ∨ most = 2) (h : WsI L most ws i a) {w : List Nat} (hw : ws[i]? = some w) (hl : w.length < most) (ha : a < L) : WsI L most (ws ++ [w ++ [a]]) i (a + 1) := by
 have hil := (List.getElem?_eq_some_iff.1 hw).1
 have hlen := h.len
 have hwl := h.ln i w hw
 have hic : i < wc L most := by
  unfold wc
  rcases hm with rfl | rfl
  ·by_cases e : i = 0
   ·simp [e]
   ·rw [if_neg e] at hwl
    split at hwl <;> omega
  ·simp only [show ¬ (2 = 1) by omega, if_false]
   by_cases e : i = 0
   ·omega
   ·rw [if_neg e] at hwl
    split at hwl <;> omega
 have hmin : min i (wc L most) = i := by omega
 rw [hmin] at hlen
 refine ⟨by simp; omega, by simp [hmin, hlen]; omega, fun j u hu => ?_, fun u hu x hx => ?_, by rw [List.getElem?_append_left (by omega)]; exact h.zero, fun j u hj hu hul x hx => ?_⟩
 ·by_cases hjl : j < ws.length
  ·rw [List.getElem?_append_left hjl] at hu; exact h.ln j u hu
  ·have hj2 := (List.getElem?_eq_some_iff.1 hu).1
   simp at hj2
   have : j = ws.length := by omega
   subst this
   simp at hu
   subst hu
   simp only [List.length_append, List.length_cons, List.length_nil]
   rw [if_neg (by omega)]
   by_cases e : i = 0
   ·subst e
    rw [if_pos rfl] at hwl
    rw [if_pos (by omega)]
    omega
   ·rw [if_neg e] at hwl
    have hiL : i ≤ L := by
     unfold wc at hic
     split at hic <;> omega
    rw [if_pos hiL] at hwl
    have : L * i ≥ L := Nat.le_mul_of_pos_right L (by omega)
    rw [if_neg (by omega)]
    omega
 ·rcases List.mem_append.1 hu with hu | hu
  ·exact h.lt u hu x hx
  ·simp at hu
   subst hu
   simp at hx
   rcases hx with hx | rfl
   ·exact h.lt w (List.mem_of_getElem? hw) x hx
   ·exact ha
 ·rw [List.getElem?_append_left (by omega)] at hu
  exact List.mem_append_left _ (h.cl j u hj hu hul x hx)
theorem WsI.next {L most : Nat} {ws : List (List Nat)} {i a : Nat} (hL : L = 1 ∨ L = 2) (hm : most = 1 ∨ most = 2) (h : WsI L most ws i a) {w : List Nat} (hw : ws[i]? = some w) (hex : (¬ w.length < most ∧ a = 0) ∨ (w.length < most ∧ a = L ∧ ∀ x, x < L → w ++ [x] ∈ ws)) : WsI L most ws (i + 1) 0 := by
 have hil := (List.getElem?_eq_some_iff.1 hw).1
 have hlen := h.len
 have hwl := h.ln i w hw
 refine ⟨by omega, ?_, h.ln, h.lt, h.zero, fun j u hj hu hul x hx => ?_⟩
 ·rw [hlen]
  unfold wc
  rcases hL with rfl | rfl <;> rcases hm with rfl | rfl <;> rcases hex with ⟨h1, rfl⟩ | ⟨h1, rfl, -⟩ <;> simp at hwl ⊢ <;> (repeat' split at hwl) <;> omega
 ·by_cases e : j = i
  ·subst e
   rw [hw] at hu
   injection hu with hu
   subst hu
   rcases hex with ⟨h1, -⟩ | ⟨-, -, h1⟩
   ·omega
   ·exact h1 x hx
  ·exact h.cl j u (by omega) hu hul x hx
theorem WsI.bound {L most : Nat} {ws : List (List Nat)} {i a : Nat} (hL : L = 1 ∨ L = 2) (h : WsI L most ws i a) (ha : a ≤ L) : ws.length ≤ 9 := by
 have hlen := h.len
 have : min i (wc L most) ≤ 3 := by
  unfold wc
  split <;> omega
 rcases hL with rfl | rfl <;> omega
structure WsG (L most : Nat) (ws : List (List Nat)) : Prop where
 len : ws.length ≤ 9
 pos : 1 ≤ ws.length
 ln : ∀ w ∈ ws, w.length ≤ most
 lt : ∀ w ∈ ws, ∀ x ∈ w, x < L
 all : ∀ w : List Nat, (∀ x ∈ w, x < L) → w.length ≤ most → w ∈ ws
theorem WsI.fin {L most : Nat} {ws : List (List Nat)} (hL : L = 1 ∨ L = 2) (hm : most = 1 ∨ most = 2) (h : WsI L most ws ws.length 0) : WsG L most ws := by
 have hz := h.zero
 have hz1 := (List.getElem?_eq_some_iff.1 hz).1
 refine ⟨h.bound hL (by omega), by omega, fun w hw => ?_, h.lt, fun w => ?_⟩
 ·obtain ⟨j, hj, rfl⟩ := List.getElem_of_mem hw
  have h1 := h.ln j ws[j] (by simp)
  have hlen := h.len
  unfold wc at hlen
  rcases hL with rfl | rfl <;> rcases hm with rfl | rfl <;> simp at hlen h1 <;> (repeat' split at h1) <;> omega
 ·induction hn : w.length generalizing w with
  | zero =>
   intro _ _
   have : w = [] := List.eq_nil_of_length_eq_zero hn
   subst this
   exact List.mem_of_getElem? hz
  | succ n ih =>
   intro hx hl
   obtain ⟨u, x, rfl⟩ : ∃ u x, w = u ++ [x] := ⟨w.dropLast, w.getLast (by intro e; simp [e] at hn), (List.dropLast_concat_getLast _).symm⟩
   simp at hn
   have hu := ih u hn (fun y hy => hx y (by simp [hy])) (by omega)
   obtain ⟨j, hj, e⟩ := List.getElem_of_mem hu
   exact h.cl j u hj (by simp [← e]) (by omega) x (hx x (by simp))
set_option maxRecDepth 100000 in
set_option maxHeartbeats 4000000 in
theorem words_fn (L most : Nat) (hL : L = 1 ∨ L = 2) (hm : most = 1 ∨ most = 2) : ∃ res, (∃ ws, WsG L most ws ∧ res = .t 2 (.sl 1 (wsT ws))) ∧ FnS Tryd.prog 68 [.t 2 (.int .i64 L), .t 2 (.int .i64 most)] [] res [] := by
 refine fn_introE Tryd.func68 rfl (by simp [Tryd.f68]) ?_
 rw [show Tryd.f68.ntmps = 43 from rfl, show Tryd.f68.results = #[.tmp 4] from rfl]
 refine awp_seqR fun K hK => ?_
 simp (disch := omega) [ints, rows, scal, wr64, wr8]
 (repeat' first | apply hK | apply And.intro) <;> try first | (show okH _ _ _ = true; kernel_rfl) | omega | rfl | (simp <;> omega)
 refine awp_seqR fun K hK => ?_
 simp (disch := omega) [ints, rows, scal, wr64, wr8]
 (repeat' first | apply hK | apply And.intro) <;> try first | (show okH _ _ _ = true; kernel_rfl) | omega | rfl | (simp <;> omega)
 refine awp_seq ?_
 refine awp_seqR fun K hK => ?_
 simp (disch := omega) [ints, rows, scal, wr64, wr8]
 (repeat' first | apply hK | apply And.intro) <;> try first | (show okH _ _ _ = true; kernel_rfl) | omega | rfl | (simp <;> omega)
 refine awp_block ?_
 refine awp_loop (fun y : Nat × List (List Nat) => mkS [(0, .t 2 (.int .i64 L)), (1, .t 2 (.int .i64 most)), (5, .own 0 y.2.length), (6, .t 2 (.int .i64 y.1))] [(0, .row 9 1 2 (wsT y.2))] 1 43 [.any, .any]) (fun y => WsI L most y.2 y.1 0) (fun y => 10 - y.1) ?_ ?_
 ·refine ⟨(0, [[]]), WsI.start, ?_⟩
  refine wk_list [(0, some 1000000)] rfl ?_ ?_ ?_ ?_
  all_goals try simp [ints, wsT, strL_nil]
 ·rintro ⟨i, ws⟩ hI
  simp only at hI
  have hb := hI.bound hL (by omega)
  refine awp_seq ?_
  refine awp_seqR fun K hK => ?_
  simp (disch := omega) [ints, rows, scal, wr64, wr8, wsT]
  (repeat' first | apply hK | apply And.intro) <;> try first | (show okH _ _ _ = true; kernel_rfl) | omega | rfl | (simp <;> omega)
  by_cases hil : i < ws.length
  ·refine awp_cond (b := true) (p := 2) (by simp [scal, hil] <;> omega) ?_
   refine awp_skip ?_
   show awp _ _ _ _
   refine awp_seq ?_
   refine awp_block ?_
   refine awp_seqR fun K hK => ?_
   simp (disch := omega) [ints, rows, scal, wr64, wr8]
   (repeat' first | apply hK | apply And.intro) <;> try first | (show okH _ _ _ = true; kernel_rfl) | omega | rfl | (simp <;> omega)
   refine awp_block ?_
   refine awp_loop (fun y : Nat × List (List Nat) => mkS [(0, .t 2 (.int .i64 L)), (1, .t 2 (.int .i64 most)), (5, .own 0 y.2.length), (6, .t 2 (.int .i64 i)), (7, .t 2 (.int .i64 y.1))] [(0, .row 9 1 2 (wsT y.2))] 1 43 [.any, .any]) (fun y => WsI L most y.2 i y.1 ∧ y.2[i]? = some ws[i] ∧ (y.1 = 0 ∨ ws[i].length < most) ∧ y.1 ≤ L ∧ ∀ x, x < y.1 → ws[i] ++ [x] ∈ y.2) (fun y => L - y.1) ?_ ?_
   ·refine ⟨(0, ws), ⟨hI, by simp, .inl rfl, by simp, fun x hx => by simp at hx⟩, ?_⟩
    refine wk_list [(0, some 0)] rfl ?_ ?_ ?_ ?_
    all_goals try simp [ints, wsT]
   ·rintro ⟨a, us⟩ ⟨hJ, hui, hal, haL, hin⟩
    simp only at hJ hui hal haL hin
    have hbu := hJ.bound hL (by omega)
    have hiu := (List.getElem?_eq_some_iff.1 hui).1
    have hue := (List.getElem?_eq_some_iff.1 hui).2
    refine awp_seq ?_
    by_cases haa : a < L
    ·by_cases hwm : ws[i].length < most
     ·refine awp_seqR fun K hK => ?_
      simp (disch := omega) [ints, rows, scal, wr64, wr8, wsT, haa, hwm, hiu, hue]
      (repeat' first | apply hK | apply And.intro) <;> try first | (show okH _ _ _ = true; kernel_rfl) | omega | rfl | (simp <;> omega)
      refine awp_cond (b := true) (p := 2) (by simp [scal, haa, hwm] <;> omega) ?_
      refine awp_skip ?_
      show awp _ _ _ _
      refine awp_seq ?_
      refine awp_block ?_
      refine awp_RD (by kernel_rfl) (fun K hK => ?_)
      simp (disch := omega) [ints, rows, scal, wr64, wr8, wsT, isU8, hiu, hue, strL_one (show a ≤ 20 by omega), strL_append]
      (repeat' first | apply hK | apply And.intro) <;> try first | (show chkD _ _ = true; kernel_rfl) | (show okH _ _ _ = true; kernel_rfl) | omega | rfl | (simp <;> omega)
      show awp _ _ _ _
      refine awp_R fun K hK => ?_
      simp (disch := omega) [ints, rows, scal, wr64, wr8]
      (repeat' first | apply hK | apply And.intro) <;> try first | (show okH _ _ _ = true; kernel_rfl) | omega | rfl | (simp <;> omega)
      refine ⟨(a + 1, us ++ [ws[i] ++ [a]]), ⟨hJ.add hL hm hui hwm haa, by rw [List.getElem?_append_left hiu]; exact hui, .inr hwm, by omega, fun x hx => ?_⟩, by simp; omega, ?_⟩
      ·by_cases e : x = a
       ·subst e; simp
       ·exact List.mem_append_left _ (hin x (by omega))
      ·refine wk_list [(0, some 0)] rfl ?_ ?_ ?_ ?_
       all_goals try simp [ints, wsT]
     ·refine awp_seqR fun K hK => ?_
      simp (disch := omega) [ints, rows, scal, wr64, wr8, wsT, haa, hwm, hiu, hue]
      (repeat' first | apply hK | apply And.intro) <;> try first | (show okH _ _ _ = true; kernel_rfl) | omega | rfl | (simp <;> omega)
      refine awp_cond (b := false) (p := 2) (by simp [scal, haa, hwm] <;> omega) ?_
      refine awp_exit ?_
      show awp _ _ _ _
      refine awp_R fun K hK => ?_
      simp (disch := omega) [ints, rows, scal, wr64, wr8]
      (repeat' first | apply hK | apply And.intro) <;> try first | (show okH _ _ _ = true; kernel_rfl) | omega | rfl | (simp <;> omega)
      refine ⟨(i + 1, us), hJ.next hL hm hui (.inl ⟨hwm, by rcases hal with h | h; exact h; omega⟩), by simp; omega, ?_⟩
      refine wk_list [(0, some 0)] rfl ?_ ?_ ?_ ?_
      all_goals try simp [ints, wsT]
    ·refine awp_seqR fun K hK => ?_
     simp (disch := omega) [ints, rows, scal, wr64, wr8, wsT, haa]
     (repeat' first | apply hK | apply And.intro) <;> try first | (show okH _ _ _ = true; kernel_rfl) | omega | rfl | (simp <;> omega)
     refine awp_cond (b := false) (p := 2) (by simp [scal, haa] <;> omega) ?_
     refine awp_exit ?_
     show awp _ _ _ _
     refine awp_R fun K hK => ?_
     simp (disch := omega) [ints, rows, scal, wr64, wr8]
     (repeat' first | apply hK | apply And.intro) <;> try first | (show okH _ _ _ = true; kernel_rfl) | omega | rfl | (simp <;> omega)
     refine ⟨(i + 1, us), hJ.next hL hm hui (.inr ⟨by rcases hal with h | h; omega; exact h, by omega, fun x hx => hin x (by omega)⟩), by simp; omega, ?_⟩
     refine wk_list [(0, some 0)] rfl ?_ ?_ ?_ ?_
     all_goals try simp [ints, wsT]
  ·have hie : i = ws.length := by have := hI.le; omega
   refine awp_cond (b := false) (p := 2) (by simp [scal, hil] <;> omega) ?_
   refine awp_exit ?_
   show awp _ _ _ _
   refine awp_seqR fun K hK => ?_
   simp (disch := omega) [ints, rows, scal, wr64, wr8]
   (repeat' first | apply hK | apply And.intro) <;> try first | (show okH _ _ _ = true; kernel_rfl) | omega | rfl | (simp <;> omega)
   refine awp_ret ?_
   subst hie
   refine ⟨_, ⟨ws, hI.fin hL hm, rfl⟩, ?_⟩
   refine ⟨⟨.inr rfl, _, [], rfl, trivial, trivial, by simp [wsT], ?_⟩, by simp [wsT]⟩
   simp [wsT]
theorem strL_tail (v : List Nat) : (strL v).extract 1 v.length = strL (v.drop 1) := by
 apply ByteArray.ext
 simp [strL, ByteArray.data_extract]
 rw [List.take_of_length_le (by simp)]
set_option maxRecDepth 100000 in
set_option maxHeartbeats 4000000 in
theorem definite_fn (xs : List Int) (a L : Nat) (ha : a ≤ xs.length) (hl : xs.length ≤ 80) (hL : L = 1 ∨ L = 2) : ∃ res H', MkG L 9 xs res H' ∧
  FnS Tryd.prog 42 [.ptr 0 0 2, .t 2 (.int .i64 L)] [tpO 1 xs a] res H' := by
 obtain ⟨v1, a1, hv1, ha1, hN1⟩ := next_fn xs a 2 ha hl (by omega)
 have hv1 := hv1 (by omega)
 obtain ⟨most, hmo⟩ : ∃ m, m = 1 + v1 := ⟨_, rfl⟩
 have hm : most = 1 ∨ most = 2 := by omega
 have hmm : (1 : Int) + v1 = most := by omega
 obtain ⟨res, ⟨ws, hW, rfl⟩, hN2⟩ := words_fn L most hL hm
 have hwl := hW.len
 have hwp := hW.pos
 refine fn_introGE Tryd.func42 rfl (by simp [Tryd.f42]) ?_
 rw [show Tryd.f42.ntmps = 76 from rfl, show Tryd.f42.results = #[.cell 4 32] from rfl]
 refine awp_seqR fun K hK => ?_
 simp (disch := omega) [ints, rows, scal, wr64, wr8]
 (repeat' first | apply hK | apply And.intro) <;> try first | (show okH _ _ _ = true; kernel_rfl) | omega | rfl | (simp <;> omega)
 refine awp_seqR fun K hK => ?_
 simp (disch := omega) [ints, rows, scal, wr64, wr8]
 (repeat' first | apply hK | apply And.intro) <;> try first | (show okH _ _ _ = true; kernel_rfl) | omega | rfl | (simp <;> omega)
 refine awp_seqR fun K hK => ?_
 simp (disch := omega) [ints, rows, scal, wr64, wr8]
 (repeat' apply And.intro)
 all_goals (try omega)
 refine call_rule (caps := []) (hN1) [0] [0] 1 rfl rfl rfl rfl (by kernel_rfl) (by simp) ?_ ?_ (by simp) rfl (by simp) ⟨.inr ⟨rfl, 0, _, _, _, _, _, rfl, rfl, rfl, rfl, rfl⟩, trivial⟩ (by simp [tpO]) ?_
 ·simp [scal, rows, ints, tpO]
 ·simp [scal, rows, ints, tpO]
 simp (disch := omega) [ints, rows, scal, wr64, wr8, hmm]
 (repeat' apply And.intro)
 all_goals (try omega)
 refine call_rule (caps := []) (hN2) [] [] 2 rfl rfl rfl rfl (by kernel_rfl) (by simp) ?_ trivial trivial rfl trivial trivial (by simp) ?_
 ·simp [scal, rows, ints, tpO]
 simp (disch := omega) [ints, rows, scal, wr64, wr8]
 (repeat' first | apply hK | apply And.intro) <;> try first | (show okH _ _ _ = true; kernel_rfl) | omega | rfl | (simp <;> omega)
 refine awp_seq ?_
 refine awp_seqR fun K hK => ?_
 simp (disch := omega) [ints, rows, scal, wr64, wr8, wsT]
 (repeat' first | apply hK | apply And.intro) <;> try first | (show okH _ _ _ = true; kernel_rfl) | omega | rfl | (simp <;> omega)
 refine awp_block ?_
 refine awp_loop (fun y : Nat × Nat × List Bool × List (List Int) => mkS [(0, .ptr 0 0 2), (1, .t 2 (.int .i64 L)), (4, .ptr 1 0 4), (5, .ptr 2 0 4), (6, .t 2 (.sl 1 (wsT ws))), (22, .t 2 (.sl 1 (wsT ws))), (23, .t 2 (.int .i64 ws.length)), (24, .t 2 (.int .i64 y.1))]
   [(0, tpO 1 xs y.2.1), (1, .box 32 [.any, .any, .any, .any]), (2, .box 32 [.t 2 (.int .i64 L), .t 2 (.int .i64 0), .own 3 y.1, .own 4 y.1]), (3, .row 4 1 2 (y.2.2.1.map .bool)), (4, .row 22 1 2 (y.2.2.2.map ints))] 5 76 [.ptr 0 0 2, .any])
  (fun y => y.1 ≤ ws.length ∧ y.2.1 ≤ xs.length ∧ y.2.2.1.length = y.1 ∧ y.2.2.2.length = y.1 ∧ ∀ r ∈ y.2.2.2, r.length = L ∧ ∀ v ∈ r, 0 ≤ v ∧ v < (ws.length : Int)) (fun y => ws.length - y.1) ?_ ?_
 ·refine ⟨(0, a1, [], []), ⟨by simp, ha1, rfl, rfl, fun r hr => by simp at hr⟩, ?_⟩
  refine wk_list [(0, some 0), (1, some 1), (2, some 3000001), (3, none), (4, none)] rfl ?_ ?_ ?_ ?_
  all_goals try simp [ints, tpO, scal, wsT]
 ·rintro ⟨q, a3, bs, nxt⟩ ⟨hq, ha3, hbl, hnl, hrow⟩
  simp only at hq ha3 hbl hnl hrow
  refine awp_seqR fun K hK => ?_
  simp (disch := omega) [ints, rows, scal, wr64, wr8]
  (repeat' first | apply hK | apply And.intro) <;> try first | (show okH _ _ _ = true; kernel_rfl) | omega | rfl | (simp <;> omega)
  refine awp_seq ?_
  by_cases hqn : q < ws.length
  ·have hwq := hW.lt ws[q] (by simp)
   have hwql := hW.ln ws[q] (by simp)
   refine awp_cond (b := true) (p := 2) (by simp [scal, hqn] <;> omega) ?_
   refine awp_skip ?_
   show awp _ _ _ _
   refine awp_seq ?_
   refine awp_block ?_
   obtain ⟨v4, a4, hv4, ha4, hN4⟩ := next_fn xs a3 2 ha3 hl (by omega)
   refine awp_seqR fun K hK => ?_
   simp (disch := omega) [ints, rows, scal, wr64, wr8, wsT, hqn]
   (repeat' first | apply hK | apply And.intro) <;> try first | (show okH _ _ _ = true; kernel_rfl) | omega | rfl | (simp <;> omega)
   refine awp_seqD (by kernel_rfl) (fun K hK => ?_)
   simp (disch := omega) [ints, rows, scal, wr64, wr8]
   (repeat' apply And.intro)
   all_goals (try omega)
   refine call_ruleD (caps := []) (hN4) [0] [0] 1 rfl rfl rfl rfl (by kernel_rfl) (by simp) ?_ ?_ (by simp) rfl (by simp) ⟨.inr ⟨rfl, 0, _, _, _, _, _, rfl, rfl, rfl, rfl, rfl⟩, trivial⟩ (by simp [tpO]) ?_
   ·simp [scal, rows, ints, tpO]
   ·simp [scal, rows, ints, tpO]
   simp (disch := omega) [ints, rows, scal, wr64, wr8, tpO]
   (repeat' first | apply hK | apply And.intro) <;> try first | (show chkD _ _ = true; kernel_rfl) | (show okH _ _ _ = true; kernel_rfl) | omega | rfl | (simp <;> omega)
   refine awp_seqR fun K hK => ?_
   simp (disch := omega) [ints, rows, scal, wr64, wr8]
   (repeat' first | apply hK | apply And.intro) <;> try first | (show okH _ _ _ = true; kernel_rfl) | omega | rfl | (simp <;> omega)
   refine awp_seq ?_
   refine awp_seqR fun K hK => ?_
   simp (disch := omega) [ints, rows, scal, wr64, wr8]
   (repeat' first | apply hK | apply And.intro) <;> try first | (show okH _ _ _ = true; kernel_rfl) | omega | rfl | (simp <;> omega)
   refine awp_block ?_
   refine awp_loop (fun y : Nat × List Int => mkS [(0, .ptr 0 0 2), (1, .t 2 (.int .i64 L)), (4, .ptr 1 0 4), (5, .ptr 2 0 4), (6, .t 2 (.sl 1 (wsT ws))), (8, .t 2 (.str (strL ws[q]))), (9, .own 5 y.1), (10, .t 2 (.int .i64 y.1)), (22, .t 2 (.sl 1 (wsT ws))), (23, .t 2 (.int .i64 ws.length)), (24, .t 2 (.int .i64 q))]
     [(0, tpO 1 xs a4), (1, .box 32 [.any, .any, .any, .any]), (2, .box 32 [.t 2 (.int .i64 L), .t 2 (.int .i64 0), .own 3 (q + 1), .own 4 q]), (3, .row 4 1 2 ((bs ++ [(v4 : Int) == 1]).map .bool)), (4, .row 22 1 2 (nxt.map ints)), (5, .row 3 1 2 (y.2.map (.int .i64)))] 6 76 [.ptr 0 0 2, .any])
    (fun y => y.1 ≤ L ∧ y.2.length = y.1 ∧ ∀ v ∈ y.2, 0 ≤ v ∧ v < (ws.length : Int)) (fun y => L - y.1) ?_ ?_
   ·refine ⟨(0, []), ⟨by simp, rfl, fun v hv => by simp at hv⟩, ?_⟩
    refine wk_list [(0, some 0), (1, some 1), (2, some 2), (3, some 3), (4, some 4), (5, none)] rfl ?_ ?_ ?_ ?_
    all_goals try simp [ints, tpO, scal, wsT, hbl]
   ·rintro ⟨x, r⟩ ⟨hx, hrl, hrv⟩
    simp only at hx hrl hrv
    refine awp_seq ?_
    refine awp_seqR fun K hK => ?_
    simp (disch := omega) [ints, rows, scal, wr64, wr8]
    (repeat' first | apply hK | apply And.intro) <;> try first | (show okH _ _ _ = true; kernel_rfl) | omega | rfl | (simp <;> omega)
    by_cases hxl : x < L
    ·refine awp_cond (b := true) (p := 2) (by simp [scal, hxl] <;> omega) ?_
     refine awp_skip ?_
     show awp _ _ _ _
     refine awp_seq ?_
     refine awp_block ?_
     refine awp_seqR fun K hK => ?_
     simp (disch := omega) [ints, rows, scal, wr64, wr8, isU8, strL_one (show x ≤ 20 by omega), strL_append]
     (repeat' first | apply hK | apply And.intro) <;> try first | (show okH _ _ _ = true; kernel_rfl) | omega | rfl | (simp <;> omega)
     refine awp_seqR fun K hK => ?_
     simp (disch := omega) [ints, rows, scal, wr64, wr8]
     (repeat' first | apply hK | apply And.intro) <;> try first | (show okH _ _ _ = true; kernel_rfl) | omega | rfl | (simp <;> omega)
     refine awp_seq ?_
     refine awp_block ?_
     refine awp_loop (fun y : List Nat × Int => mkS [(0, .ptr 0 0 2), (1, .t 2 (.int .i64 L)), (4, .ptr 1 0 4), (5, .ptr 2 0 4), (6, .t 2 (.sl 1 (wsT ws))), (8, .t 2 (.str (strL ws[q]))), (9, .own 5 x), (10, .t 2 (.int .i64 x)), (11, .t 2 (.str (strL y.1))), (12, .t 2 (.int .i64 y.2)), (22, .t 2 (.sl 1 (wsT ws))), (23, .t 2 (.int .i64 ws.length)), (24, .t 2 (.int .i64 q))]
       [(0, tpO 1 xs a4), (1, .box 32 [.any, .any, .any, .any]), (2, .box 32 [.t 2 (.int .i64 L), .t 2 (.int .i64 0), .own 3 (q + 1), .own 4 q]), (3, .row 4 1 2 ((bs ++ [(v4 : Int) == 1]).map .bool)), (4, .row 22 1 2 (nxt.map ints)), (5, .row 3 1 2 (r.map (.int .i64)))] 6 76 [.ptr 0 0 2, .any])
      (fun y => (y.2 = -1 ∧ 1 ≤ y.1.length ∧ y.1.length ≤ most + 1 ∧ ∀ z ∈ y.1, z < L) ∨ (0 ≤ y.2 ∧ y.2 < (ws.length : Int))) (fun y => y.1.length) ?_ ?_
     ·refine ⟨(ws[q] ++ [x], -1), .inl ⟨rfl, by simp, by simp; omega, fun z hz => ?_⟩, ?_⟩
      ·rcases List.mem_append.1 hz with hz | hz
       ·exact hwq z hz
       ·simp at hz; omega
      ·refine wk_list [(0, some 0), (1, some 1), (2, some 2), (3, some 3), (4, some 4), (5, some 5)] rfl ?_ ?_ ?_ ?_
       all_goals try simp [ints, tpO, scal, wsT, hbl]
     ·rintro ⟨v, to⟩ hto
      simp only at hto
      refine awp_seq ?_
      refine awp_seqR fun K hK => ?_
      simp (disch := omega) [ints, rows, scal, wr64, wr8]
      (repeat' first | apply hK | apply And.intro) <;> try first | (show okH _ _ _ = true; kernel_rfl) | omega | rfl | (simp <;> omega)
      rcases hto with ⟨rfl, hv1', hv2', hvx⟩ | ⟨ht1, ht2⟩
      ·refine awp_cond (b := true) (p := 2) (by simp [scal] <;> omega) ?_
       refine awp_skip ?_
       show awp _ _ _ _
       refine awp_block ?_
       refine awp_seq ?_
       refine awp_seqR fun K hK => ?_
       simp (disch := omega) [ints, rows, scal, wr64, wr8, wsT]
       (repeat' first | apply hK | apply And.intro) <;> try first | (show okH _ _ _ = true; kernel_rfl) | omega | rfl | (simp <;> omega)
       refine awp_block ?_
       refine awp_loop (fun y : Nat × Int => mkS [(0, .ptr 0 0 2), (1, .t 2 (.int .i64 L)), (4, .ptr 1 0 4), (5, .ptr 2 0 4), (6, .t 2 (.sl 1 (wsT ws))), (8, .t 2 (.str (strL ws[q]))), (9, .own 5 x), (10, .t 2 (.int .i64 x)), (11, .t 2 (.str (strL v))), (12, .t 2 (.int .i64 y.2)), (22, .t 2 (.sl 1 (wsT ws))), (23, .t 2 (.int .i64 ws.length)), (24, .t 2 (.int .i64 q)), (50, .t 2 (.sl 1 (wsT ws))), (51, .t 2 (.int .i64 ws.length)), (52, .t 2 (.int .i64 y.1))]
         [(0, tpO 1 xs a4), (1, .box 32 [.any, .any, .any, .any]), (2, .box 32 [.t 2 (.int .i64 L), .t 2 (.int .i64 0), .own 3 (q + 1), .own 4 q]), (3, .row 4 1 2 ((bs ++ [(v4 : Int) == 1]).map .bool)), (4, .row 22 1 2 (nxt.map ints)), (5, .row 3 1 2 (r.map (.int .i64)))] 6 76 [.ptr 0 0 2, .any])
        (fun y => y.1 ≤ ws.length ∧ ((y.2 = -1 ∧ ∀ i (hi : i < ws.length), i < y.1 → ws[i] ≠ v) ∨ (0 ≤ y.2 ∧ y.2 < (ws.length : Int)))) (fun y => ws.length - y.1) ?_ ?_
       ·refine ⟨(0, -1), ⟨by simp, .inl ⟨rfl, fun i _ h => by simp at h⟩⟩, ?_⟩
        refine wk_list [(0, some 0), (1, some 1), (2, some 2), (3, some 3), (4, some 4), (5, some 5)] rfl ?_ ?_ ?_ ?_
        all_goals try simp [ints, tpO, scal, wsT, hbl]
       ·rintro ⟨k, to⟩ ⟨hk, hto⟩
        simp only at hk hto
        refine awp_seqR fun K hK => ?_
        simp (disch := omega) [ints, rows, scal, wr64, wr8]
        (repeat' first | apply hK | apply And.intro) <;> try first | (show okH _ _ _ = true; kernel_rfl) | omega | rfl | (simp <;> omega)
        refine awp_seq ?_
        by_cases hkl : k < ws.length
        ·refine awp_cond (b := true) (p := 2) (by simp [scal, hkl] <;> omega) ?_
         refine awp_skip ?_
         show awp _ _ _ _
         refine awp_seq ?_
         refine awp_block ?_
         refine awp_seqR fun K hK => ?_
         simp (disch := omega) [ints, rows, scal, wr64, wr8, wsT, hkl]
         (repeat' first | apply hK | apply And.intro) <;> try first | (show okH _ _ _ = true; kernel_rfl) | omega | rfl | (simp <;> omega)
         by_cases he : (strL ws[k]).toList = (strL v).toList
         ·refine awp_seqR fun K hK => ?_
          simp (disch := omega) [ints, rows, scal, wr64, wr8, he]
          (repeat' first | apply hK | apply And.intro) <;> try first | (show okH _ _ _ = true; kernel_rfl) | omega | rfl | (simp <;> omega)
          refine awp_cond (b := true) (p := 2) (by simp [scal] <;> omega) ?_
          refine awp_R fun K hK => ?_
          simp (disch := omega) [ints, rows, scal, wr64, wr8]
          (repeat' first | apply hK | apply And.intro) <;> try first | (show okH _ _ _ = true; kernel_rfl) | omega | rfl | (simp <;> omega)
          show awp _ _ _ _
          refine awp_R fun K hK => ?_
          simp (disch := omega) [ints, rows, scal, wr64, wr8]
          (repeat' first | apply hK | apply And.intro) <;> try first | (show okH _ _ _ = true; kernel_rfl) | omega | rfl | (simp <;> omega)
          refine ⟨(k + 1, (k : Int)), ⟨by omega, .inr ⟨by omega, by omega⟩⟩, by simp; omega, ?_⟩
          refine wk_list [(0, some 0), (1, some 1), (2, some 2), (3, some 3), (4, some 4), (5, some 5)] rfl ?_ ?_ ?_ ?_
          all_goals try simp [ints, tpO, scal, wsT]
         ·refine awp_seqR fun K hK => ?_
          simp (disch := omega) [ints, rows, scal, wr64, wr8, he]
          (repeat' first | apply hK | apply And.intro) <;> try first | (show okH _ _ _ = true; kernel_rfl) | omega | rfl | (simp <;> omega)
          refine awp_cond (b := false) (p := 2) (by simp [scal, he] <;> omega) ?_
          refine awp_skip ?_
          show awp _ _ _ _
          refine awp_R fun K hK => ?_
          simp (disch := omega) [ints, rows, scal, wr64, wr8]
          (repeat' first | apply hK | apply And.intro) <;> try first | (show okH _ _ _ = true; kernel_rfl) | omega | rfl | (simp <;> omega)
          refine ⟨(k + 1, to), ⟨by omega, ?_⟩, by simp; omega, ?_⟩
          ·rcases hto with ⟨h1, h2⟩ | h1
           ·refine .inl ⟨h1, fun i hi hik => ?_⟩
            by_cases e : i = k
            ·subst e; intro h; exact he (by rw [h])
            ·exact h2 i hi (by simp at hik; omega)
           ·exact .inr h1
          ·refine wk_list [(0, some 0), (1, some 1), (2, some 2), (3, some 3), (4, some 4), (5, some 5)] rfl ?_ ?_ ?_ ?_
           all_goals try simp [ints, tpO, scal, wsT]
        ·refine awp_cond (b := false) (p := 2) (by simp [scal, hkl] <;> omega) ?_
         refine awp_exit ?_
         show awp _ _ _ _
         refine awp_R fun K hK => ?_
         simp (disch := omega) [ints, rows, scal, wr64, wr8, strL_tail]
         (repeat' first | apply hK | apply And.intro) <;> try first | (show okH _ _ _ = true; kernel_rfl) | omega | rfl | (simp <;> omega)
         refine ⟨(v.drop 1, to), ?_, by simp; omega, ?_⟩
         ·rcases hto with ⟨h1, h2⟩ | h1
          ·refine .inl ⟨h1, ?_, by simp; omega, fun z hz => hvx z (List.mem_of_mem_drop hz)⟩
           by_cases hvl : v.length ≤ most
           ·exfalso
            obtain ⟨i, hi, e⟩ := List.getElem_of_mem (hW.all v hvx hvl)
            exact h2 i hi (by omega) e
           ·simp; omega
          ·exact .inr h1
         ·refine wk_list [(0, some 0), (1, some 1), (2, some 2), (3, some 3), (4, some 4), (5, some 5)] rfl ?_ ?_ ?_ ?_
          all_goals try simp [ints, tpO, scal, wsT]
      ·refine awp_cond (b := false) (p := 2) (by simp [scal] <;> omega) ?_
       refine awp_exit ?_
       show awp _ _ _ _
       refine awp_R fun K hK => ?_
       simp (disch := omega) [ints, rows, scal, wr64, wr8]
       (repeat' first | apply hK | apply And.intro) <;> try first | (show okH _ _ _ = true; kernel_rfl) | omega | rfl | (simp <;> omega)
       show awp _ _ _ _
       refine awp_R fun K hK => ?_
       simp (disch := omega) [ints, rows, scal, wr64, wr8]
       (repeat' first | apply hK | apply And.intro) <;> try first | (show okH _ _ _ = true; kernel_rfl) | omega | rfl | (simp <;> omega)
       refine ⟨(x + 1, r ++ [to]), ⟨by omega, by simp [hrl], fun u hu => ?_⟩, by simp; omega, ?_⟩
       ·rcases List.mem_append.1 hu with hu | hu
        ·exact hrv u hu
        ·simp at hu; omega
       ·refine wk_list [(0, some 0), (1, some 1), (2, some 2), (3, some 3), (4, some 4), (5, some 5)] rfl ?_ ?_ ?_ ?_
        all_goals try simp [ints, tpO, scal, wsT, hrl]
    ·have hxe : x = L := by omega
     refine awp_cond (b := false) (p := 2) (by simp [scal, hxl] <;> omega) ?_
     refine awp_exit ?_
     show awp _ _ _ _
     refine awp_R fun K hK => ?_
     simp (disch := omega) [ints, rows, scal, wr64, wr8]
     (repeat' first | apply hK | apply And.intro) <;> try first | (show okH _ _ _ = true; kernel_rfl) | omega | rfl | (simp <;> omega)
     show awp _ _ _ _
     refine awp_R fun K hK => ?_
     simp (disch := omega) [ints, rows, scal, wr64, wr8]
     (repeat' first | apply hK | apply And.intro) <;> try first | (show okH _ _ _ = true; kernel_rfl) | omega | rfl | (simp <;> omega)
     refine ⟨(q + 1, a4, bs ++ [(v4 : Int) == 1], nxt ++ [r]), ⟨by simp; omega, ha4, by simp [hbl], by simp [hnl], fun u hu => ?_⟩, by simp; omega, ?_⟩
     ·rcases List.mem_append.1 hu with hu | hu
      ·exact hrow u hu
      ·simp at hu
       subst hu
       exact ⟨by omega, hrv⟩
     ·refine wk_list [(0, some 0), (1, some 1), (2, some 2), (3, some 3), (4, some 4)] rfl ?_ ?_ ?_ ?_
      all_goals try simp [ints, tpO, scal, wsT, hbl, hnl]
  ·have hqe : q = ws.length := by omega
   refine awp_cond (b := false) (p := 2) (by simp [scal, hqn] <;> omega) ?_
   refine awp_exit ?_
   show awp _ _ _ _
   refine awp_seqR fun K hK => ?_
   simp (disch := omega) [ints, rows, scal, wr64, wr8]
   (repeat' first | apply hK | apply And.intro) <;> try first | (show okH _ _ _ = true; kernel_rfl) | omega | rfl | (simp <;> omega)
   refine awp_ret ?_
   subst hqe
   refine ⟨⟨_, _, ⟨ws.length, 0, a3, bs, nxt, hwl, ha3, ⟨hwp, by omega, hbl, hnl, hrow⟩, rfl, rfl⟩, resQ_G ?_⟩, by simp⟩
   refine ⟨.inr rfl, _, [(0, some 0)], (by first | (simp; rfl) | rfl), ?_, ?_, ?_, ?_⟩
   all_goals try simp +contextual (disch := omega) [beq_gt, beq_lt, eq_lt, eq_gt, lt_t, List.getElem?_cons_succ, Option.getD_some, callF, ints, scal, tpO, wkPs_snoc, wkPs_tab, wkT_tab, wk1, rows, bools, dfT, hbl, hnl]
end Go.Proofs.YtnffigeofdagfaaDoor.M
