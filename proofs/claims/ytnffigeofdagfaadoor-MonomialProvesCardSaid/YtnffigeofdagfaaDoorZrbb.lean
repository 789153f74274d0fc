/-
  Walk in my logic: Classes (minimize).
-/
import Derived.Test.YtnffigeofdagfaaDoorZrau
import Derived.Test.YtnffigeofdagfaaDoorZrba
namespace Go.Proofs.YtnffigeofdagfaaDoor.M
open Go.RowKit
set_option linter.unusedVariables false
set_option linter.unusedSimpArgs false

def ksT (k : List Int) : T := .sl 99 (k.map (.int .i64))
def ksC (k : List Int) : List AV := k.map fun x => .t 2 (.int .i64 x)
@[simp] theorem ksC_len (k : List Int) : (ksC k).length = k.length := by simp [ksC]
theorem ksC_key : ∀ (k : List Int), keyL (ksC k) = some (k.map (.int .i64))
 | [] => rfl
 | x :: r => by
  have := ksC_key r
  simp only [ksC, List.map_cons, keyL] at this ⊢
  rw [this]
  rfl
theorem ksC_set (k : List Int) (i : Nat) (x : Int) : (ksC k).set i (.t 2 (.int .i64 x)) = ksC (k.set i x) := by
 simp [ksC, List.map_set]
@[simp] theorem wkPs_ksC (H : Nat → Option AObj) (m : Nat → Option Nat) (un : Nat → Prop) (nx : Nat) : ∀ (k : List Int), wkPs H m un nx (ksC k) (ksC k)
 | [] => by simp [ksC]
 | x :: r => by
  have := wkPs_ksC H m un nx r
  simp only [ksC, List.map_cons, wkPs, wkP] at this ⊢
  exact ⟨by simp, this⟩
theorem ksT_eq (a b : List Int) : kEq (ksT a) (ksT b) = decide (a = b) := by
 simp only [ksT, kEq]
 exact kEqL_map a b
theorem ksT_ok {k : List Int} (h : k.length = 7) : kOK Tryd.prog 158 (ksT k) = true := by
 have h1 : kagB Tryd.prog 158 = some 7 := by kernel_rfl
 have h2 : (k.map (T.int .i64)).all isI64 = true := by
  rw [List.all_map, List.all_eq_true]
  intro x _
  rfl
 simp [kOK, ksT, h1, h, isI64]
theorem kents_all2 {α : Type} (f : α → T) {P : Program} {K : TypeId} : ∀ (cl : List α) (j : Nat), (∀ a ∈ cl, kOK P K (f a) = true) → ((kents f j cl).all fun e => kOK P K e.1) = true
 | [], j, _ => rfl
 | a :: r, j, h => by
  simp only [kents, List.all_cons, h a (by simp), kents_all2 f r (j + 1) (fun b hb => h b (by simp [hb])), Bool.and_self]
@[simp] theorem keyQ_len (L : Nat) (nxt : List (List Int)) (p : Nat → Nat) (q : Nat) : (keyQ L nxt p q).length = 7 := by simp [keyQ]
theorem keyQ_set {x : Nat} (hx : x < 6) (nxt : List (List Int)) (p : Nat → Nat) (q : Nat) : (keyQ x nxt p q).set (1 + x) (p (stepR nxt q x) : Int) = keyQ (x + 1) nxt p q := by
 rw [keyQ, tab_set]
 refine tab_congr fun j hj => ?_
 by_cases e : j = 1 + x
 ·subst e
  rw [if_pos rfl, if_neg (by omega), if_pos (by omega), show 1 + x - 1 = x by omega]
 ·rw [if_neg e]
  by_cases e0 : j = 0
  ·rw [if_pos e0, if_pos e0]
  ·rw [if_neg e0, if_neg e0]
   by_cases e2 : j ≤ x
   ·rw [if_pos e2, if_pos (by omega)]
   ·rw [if_neg e2, if_neg (by omega)]
theorem keyQ_zero (nxt : List (List Int)) (p : Nat → Nat) (q : Nat) : ksC (keyQ 0 nxt p q) = [.t 2 (.int .i64 (p q : Nat)), .t 2 (.int .i64 0), .t 2 (.int .i64 0), .t 2 (.int .i64 0), .t 2 (.int .i64 0), .t 2 (.int .i64 0), .t 2 (.int .i64 0)] := rfl
theorem NuA.src {α : Type} {f : Nat → α} {cl : List α} {r : Nat → Nat} {k : Nat} (h : NuA f cl r k) {v : α} (hv : v ∈ cl) : ∃ i, i < k ∧ v = f i := by
 obtain ⟨a, ha, e⟩ := List.getElem_of_mem hv
 obtain ⟨x, h1, h2⟩ := cv_has (p := r) (c := a) (k := k) (by rw [h.cnt]; exact ha)
 have h3 := h.at_ x h1
 rw [h2, List.getElem?_eq_getElem ha] at h3
 injection h3 with h3
 exact ⟨x, h1, by rw [← e, h3]⟩
def cntK (bs : List Bool) (k : Nat) : Nat := if k = 0 then 1 else cv (finP bs) k
theorem cntK_eq {bs : List Bool} {k : Nat} (h : finP bs k = 0) : cntK bs (k + 1) = cntK bs k := by
 unfold cntK
 rw [if_neg (by omega)]
 show (if finP bs k = cv (finP bs) k then cv (finP bs) k + 1 else cv (finP bs) k) = _
 rw [h]
 cases k with
 | zero => simp [cv]
 | succ k =>
  have := (finP_cv bs k).1
  rw [if_neg (by omega), if_neg (by omega)]
theorem cntK_ne {bs : List Bool} {k : Nat} (h : finP bs k = 1) : cntK bs (k + 1) = 2 := by
 unfold cntK
 rw [if_neg (by omega)]
 show (if finP bs k = cv (finP bs) k then cv (finP bs) k + 1 else cv (finP bs) k) = _
 rw [h]
 cases k with
 | zero => simp [finP] at h
 | succ k =>
  have := finP_cv bs k
  split <;> omega
set_option maxRecDepth 100000 in
set_option maxHeartbeats 16000000 in
theorem mzclasses_fn {L n s : Nat} {bs : List Bool} {nxt : List (List Int)} (h : DfL L n s bs nxt) (hL : 1 ≤ L) (hL2 : L ≤ 6) (hn : n ≤ 512) : ∃ res, (∃ r, ClG L n bs nxt r ∧ res = .t 2 (.sl 1 (rwN n r))) ∧ FnS Tryd.prog 88 [dfT 0 L s bs nxt] [] res [] := by
 have hbl := h.bl
 have hnl := h.nl
 have hn1 := h.n1
 have hz1 : zero1 Tryd.prog 3 = some (.int .i64 0) := by kernel_rfl
 have h0b : 0 < bs.length := by omega
 refine fn_introE Tryd.func88 rfl (by simp [Tryd.f88]) ?_
 rw [show Tryd.f88.ntmps = 99 from rfl, show Tryd.f88.results = #[.tmp 2] from rfl]
 refine awp_seqR fun K hK => ?_
 simp (maxSteps := 2000000) (disch := omega) [ints, rows, scal, wr64, wr8, dfT, bools]
 (repeat' first | apply hK | apply And.intro) <;> try first | (show okH _ _ _ = true; kernel_rfl) | omega | rfl | (simp <;> omega)
 refine awp_seq ?_
 refine awp_seqR fun K hK => ?_
 simp (maxSteps := 2000000) (disch := omega) [ints, rows, scal, wr64, wr8]
 (repeat' apply And.intro)
 all_goals (try omega)
 refine call_rule (caps := []) (dvalidate_fn h hL hL2 hn) [] [] 2 rfl rfl rfl rfl (by kernel_rfl) (by simp) ?_ trivial trivial rfl trivial trivial (by simp) ?_
 ·simp [scal, rows, ints, dfT, bools]
 simp (maxSteps := 2000000) (disch := omega) [ints, rows, scal, wr64, wr8]
 (repeat' first | apply hK | apply And.intro) <;> try first | (show okH _ _ _ = true; kernel_rfl) | omega | rfl | (simp <;> omega)
 refine awp_cond (b := false) (p := 2) (by simp [scal] <;> omega) ?_
 refine awp_skip ?_
 show awp _ _ _ _
 refine awp_seqR fun K hK => ?_
 simp (maxSteps := 2000000) (disch := omega) [ints, rows, scal, wr64, wr8, hbl]
 (repeat' first | apply hK | apply And.intro) <;> try first | (show okH _ _ _ = true; kernel_rfl) | omega | rfl | (simp <;> omega)
 refine awp_seq ?_
 refine awp_seqR fun K hK => ?_
 simp (maxSteps := 2000000) (disch := omega) [ints, rows, scal, wr64, wr8, hbl]
 (repeat' first | apply hK | apply And.intro) <;> try first | (show okH _ _ _ = true; kernel_rfl) | omega | rfl | (simp <;> omega)
 refine awp_block ?_
 refine awp_loop (fun y : Nat => mkS [(1, .ptr 0 0 4), (3, .own 1 n), (4, .t 2 (.int .i64 (cntK bs y : Nat))), (24, .t 0 (bools bs)), (25, .t 2 (.int .i64 n)), (26, .t 2 (.int .i64 y))] [(0, dfO L s bs nxt), (1, .row 3 1 2 (rwN n fun i => if i < y then finP bs i else 0))] 2 99 [.any]) (fun y => y ≤ n) (fun y => n - y) ?_ ?_
 ·refine ⟨0, by omega, ?_⟩
  refine wk_list [(0, some 0), (1, some 8000000)] rfl ?_ ?_ ?_ ?_
  all_goals try simp [ints, rwN_zero, dfO, rows, bools, cntK]
 intro k hk
 refine awp_seqR fun K hK => ?_
 simp (maxSteps := 2000000) (disch := omega) [ints, rows, scal, wr64, wr8]
 (repeat' first | apply hK | apply And.intro) <;> try first | (show okH _ _ _ = true; kernel_rfl) | omega | rfl | (simp <;> omega)
 refine awp_seq ?_
 by_cases hkn : k < n
 ·refine awp_cond (b := true) (p := 2) (by simp [scal, hkn] <;> omega) ?_
  have hkb : k < bs.length := by omega
  refine awp_skip ?_
  show awp _ _ _ _
  refine awp_seq ?_
  refine awp_block ?_
  refine awp_seqR fun K hK => ?_
  simp (maxSteps := 2000000) (disch := omega) [ints, rows, scal, wr64, wr8, bools, hkb]
  (repeat' first | apply hK | apply And.intro) <;> try first | (show okH _ _ _ = true; kernel_rfl) | omega | rfl | (simp <;> omega)
  refine awp_seqR fun K hK => ?_
  simp (maxSteps := 2000000) (disch := omega) [ints, rows, scal, wr64, wr8, dfO, bools, h0b]
  (repeat' first | apply hK | apply And.intro) <;> try first | (show okH _ _ _ = true; kernel_rfl) | omega | rfl | (simp <;> omega)
  by_cases e : bs[k] = bs[0]
  ·have hf : finP bs k = 0 := by simp [finP, hkb, h0b, e]
   have hcn := cntK_eq hf
   have hrw : rwN n (fun i => if i < k then finP bs i else 0) = rwN n (fun i => if i < k + 1 then finP bs i else 0) := rwN_congr fun i hi => by
    by_cases e2 : i = k
    ·subst e2
     rw [if_neg (by omega), if_pos (by omega), hf]
    ·by_cases e3 : i < k
     ·rw [if_pos e3, if_pos (by omega)]
     ·rw [if_neg e3, if_neg (by omega)]
   refine awp_cond (b := false) (p := 2) (by simp [scal, e] <;> omega) ?_
   refine awp_skip ?_
   show awp _ _ _ _
   refine awp_R fun K hK => ?_
   simp (maxSteps := 2000000) (disch := omega) [ints, rows, scal, wr64, wr8]
   (repeat' first | apply hK | apply And.intro) <;> try first | (show okH _ _ _ = true; kernel_rfl) | omega | rfl | (simp <;> omega)
   refine ⟨k + 1, by omega, by omega, ?_⟩
   refine wk_list [(0, some 0), (1, some 1)] rfl ?_ ?_ ?_ ?_
   all_goals try simp [ints, hrw, dfO, rows, bools, hcn]
  ·have hf : finP bs k = 1 := by simp [finP, hkb, h0b, e]
   have hcn := cntK_ne hf
   have hst : (rwN n (fun i => if i < k then finP bs i else 0)).set k (.int .i64 1) = rwN n (fun i => if i = k then 1 else if i < k then finP bs i else 0) := rwN_set n _ k 1
   have hrw : rwN n (fun i => if i = k then 1 else if i < k then finP bs i else 0) = rwN n (fun i => if i < k + 1 then finP bs i else 0) := rwN_congr fun i hi => by
    by_cases e2 : i = k
    ·subst e2
     rw [if_pos rfl, if_pos (by omega), hf]
    ·rw [if_neg e2]
     by_cases e3 : i < k
     ·rw [if_pos e3, if_pos (by omega)]
     ·rw [if_neg e3, if_neg (by omega)]
   refine awp_cond (b := true) (p := 2) (by simp [scal, e] <;> omega) ?_
   refine awp_R fun K hK => ?_
   simp (maxSteps := 2000000) (disch := omega) [ints, rows, scal, wr64, wr8]
   (repeat' first | apply hK | apply And.intro) <;> try first | (show okH _ _ _ = true; kernel_rfl) | omega | rfl | (simp <;> omega)
   show awp _ _ _ _
   refine awp_R fun K hK => ?_
   simp (maxSteps := 2000000) (disch := omega) [ints, rows, scal, wr64, wr8]
   (repeat' first | apply hK | apply And.intro) <;> try first | (show okH _ _ _ = true; kernel_rfl) | omega | rfl | (simp <;> omega)
   refine ⟨k + 1, by omega, by omega, ?_⟩
   refine wk_list [(0, some 0), (1, some 1)] rfl ?_ ?_ ?_ ?_
   all_goals try simp [ints, hst, hrw, dfO, rows, bools, hcn]
 ·have hke : n = k := by omega
  subst k
  have hM0 := finP_ok L n bs nxt hbl
  have hrw : rwN n (fun i => if i < n then finP bs i else 0) = rwN n (finP bs) := rwN_congr fun i hi => by rw [if_pos hi]
  have hcn : cntK bs n = cv (finP bs) n := by unfold cntK; rw [if_neg (by omega)]
  rw [hrw, hcn]
  generalize finP bs = p0 at hM0
  clear hrw hcn
  refine awp_cond (b := false) (p := 2) (by simp [scal] <;> omega) ?_
  refine awp_exit ?_
  show awp _ _ _ _
  refine awp_block ?_
  refine awp_loop (fun p : Nat → Nat => mkS [(1, .ptr 0 0 4), (3, .own 1 n), (4, .t 2 (.int .i64 (cv p n : Nat)))] [(0, dfO L s bs nxt), (1, .row 3 1 2 (rwN n p))] 2 99 [.any]) (fun p => MnI L n bs nxt p) (fun p => n - cv p n) ?_ ?_
  ·refine ⟨p0, hM0, ?_⟩
   refine wk_list [(0, some 0), (1, some 1)] rfl ?_ ?_ ?_ ?_
   all_goals try simp [ints, dfO, bools]
  clear hM0
  intro p hp
  have hcvn := cv_le p n
  refine awp_block ?_
  refine awp_seqR fun K hK => ?_
  simp (maxSteps := 2000000) (disch := omega) [ints, rows, scal, wr64, wr8]
  (repeat' first | apply hK | apply And.intro) <;> try first | (show okH _ _ _ = true; kernel_rfl) | omega | rfl | (simp <;> omega)
  refine awp_seqR fun K hK => ?_
  simp (maxSteps := 2000000) (disch := omega) [ints, rows, scal, wr64, wr8]
  (repeat' first | apply hK | apply And.intro) <;> try first | (show okH _ _ _ = true; kernel_rfl) | omega | rfl | (simp <;> omega)
  refine awp_seq ?_
  refine awp_seqR fun K hK => ?_
  simp (maxSteps := 2000000) (disch := omega) [ints, rows, scal, wr64, wr8, dfO, rows, hnl]
  (repeat' first | apply hK | apply And.intro) <;> try first | (show okH _ _ _ = true; kernel_rfl) | omega | rfl | (simp <;> omega)
  refine awp_block ?_
  refine awp_loop (fun y : Nat × List (List Int) × (Nat → Nat) => mkS [(1, .ptr 0 0 4), (3, .own 1 n), (4, .t 2 (.int .i64 (cv p n : Nat))), (7, .own 2 0), (8, .own 3 n), (46, .t 0 (rows nxt)), (47, .t 2 (.int .i64 n)), (48, .t 2 (.int .i64 y.1))] [(0, dfO L s bs nxt), (1, .row 3 1 2 (rwN n p)), (2, .map 158 3 (kents ksT 0 y.2.1)), (3, .row 3 1 2 (rwN n fun i => if i < y.1 then y.2.2 i else 0))] 4 99 [.any]) (fun y => NuA (keyQ L nxt p) y.2.1 y.2.2 y.1 ∧ y.1 ≤ n) (fun y => n - y.1) ?_ ?_
  ·refine ⟨(0, [], fun _ => 0), ⟨NuA.start, by simp⟩, ?_⟩
   refine wk_list [(0, some 0), (1, some 1), (2, some 2), (3, some 4000002)] rfl ?_ ?_ ?_ ?_
   all_goals try simp [ints, rwN_zero, dfO, rows, bools, kents]
  rintro ⟨q, cl, r⟩ ⟨hN, hq⟩
  simp only at hN hq
  have hcl := hN.cnt
  have hcvq := cv_le r q
  refine awp_seqR fun K hK => ?_
  simp (maxSteps := 2000000) (disch := omega) [ints, rows, scal, wr64, wr8]
  (repeat' first | apply hK | apply And.intro) <;> try first | (show okH _ _ _ = true; kernel_rfl) | omega | rfl | (simp <;> omega)
  refine awp_seq ?_
  by_cases hqn : q < n
  ·refine awp_cond (b := true) (p := 2) (by simp [scal, hqn] <;> omega) ?_
   have hqx : q < nxt.length := by omega
   obtain ⟨hrl, -⟩ := h.row nxt[q] (by simp)
   have hpq := hp.ok q hqn
   have hcq := cv_le p q
   have hg := rwN_at (c := p) hqn
   refine awp_skip ?_
   show awp _ _ _ _
   refine awp_seq ?_
   refine awp_block ?_
   refine awp_seqR fun K hK => ?_
   simp (maxSteps := 2000000) (disch := omega) [ints, rows, scal, wr64, wr8, rows, hqx]
   (repeat' first | apply hK | apply And.intro) <;> try first | (show okH _ _ _ = true; kernel_rfl) | omega | rfl | (simp <;> omega)
   refine awp_seqR fun K hK => ?_
   simp (maxSteps := 2000000) (disch := omega) [ints, rows, scal, wr64, wr8, hg]
   (repeat' first | apply hK | apply And.intro) <;> try first | (show okH _ _ _ = true; kernel_rfl) | omega | rfl | (simp <;> omega)
   refine awp_seq ?_
   refine awp_seqR fun K hK => ?_
   simp (maxSteps := 2000000) (disch := omega) [ints, rows, scal, wr64, wr8, hrl]
   (repeat' first | apply hK | apply And.intro) <;> try first | (show okH _ _ _ = true; kernel_rfl) | omega | rfl | (simp <;> omega)
   refine awp_block ?_
   refine awp_loop (fun x : Nat => mkS [(1, .ptr 0 0 4), (3, .own 1 n), (4, .t 2 (.int .i64 (cv p n : Nat))), (7, .own 2 0), (8, .own 3 n), (9, .t 2 (.int .i64 q)), (11, .ptr 4 0 7), (46, .t 0 (rows nxt)), (47, .t 2 (.int .i64 n)), (48, .t 2 (.int .i64 q)), (58, .t 0 (ints nxt[q])), (59, .t 2 (.int .i64 L)), (60, .t 2 (.int .i64 x))] [(0, dfO L s bs nxt), (1, .row 3 1 2 (rwN n p)), (2, .map 158 3 (kents ksT 0 cl)), (3, .row 3 1 2 (rwN n fun i => if i < q then r i else 0)), (4, .box 158 (ksC (keyQ x nxt p q)))] 5 99 [.any]) (fun x => x ≤ L) (fun x => L - x) ?_ ?_
   ·refine ⟨0, by omega, ?_⟩
    rw [keyQ_zero]
    refine wk_list [(0, some 0), (1, some 1), (2, some 2), (3, some 3), (4, some 11000004)] rfl ?_ ?_ ?_ ?_
    all_goals try simp [ints, dfO, rows, bools, hrl]
   intro x hx
   refine awp_seqR fun K hK => ?_
   simp (maxSteps := 2000000) (disch := omega) [ints, rows, scal, wr64, wr8]
   (repeat' first | apply hK | apply And.intro) <;> try first | (show okH _ _ _ = true; kernel_rfl) | omega | rfl | (simp <;> omega)
   refine awp_seq ?_
   by_cases hxl : x < L
   ·refine awp_cond (b := true) (p := 2) (by simp [scal, hxl] <;> omega) ?_
    obtain ⟨s1, s2, s3, s4⟩ := h.rt.step hqn hxl
    have hg2 := rwN_at (c := p) s1
    have hks := keyQ_set (x := x) (by omega) nxt p q
    have hx6 : x < 6 := by omega
    have hxt : (1 + (x : Int)).toNat = 1 + x := by omega
    refine awp_skip ?_
    show awp _ _ _ _
    refine awp_seq ?_
    refine awp_block ?_
    refine awp_seqR fun K hK => ?_
    simp (maxSteps := 2000000) (disch := omega) [ints, rows, scal, wr64, wr8, s3, s4]
    (repeat' first | apply hK | apply And.intro) <;> try first | (show okH _ _ _ = true; kernel_rfl) | omega | rfl | (simp <;> omega)
    refine awp_R fun K hK => ?_
    simp (maxSteps := 2000000) (disch := omega) [ints, rows, scal, wr64, wr8, hg2, hxt]
    (repeat' first | apply hK | apply And.intro) <;> try first | (show okH _ _ _ = true; kernel_rfl) | omega | rfl | (simp <;> omega)
    show awp _ _ _ _
    refine awp_R fun K hK => ?_
    simp (maxSteps := 2000000) (disch := omega) [ints, rows, scal, wr64, wr8]
    (repeat' first | apply hK | apply And.intro) <;> try first | (show okH _ _ _ = true; kernel_rfl) | omega | rfl | (simp <;> omega)
    refine ⟨x + 1, by omega, by omega, ?_⟩
    refine wk_list [(0, some 0), (1, some 1), (2, some 2), (3, some 3), (4, some 4)] rfl ?_ ?_ ?_ ?_
    all_goals try simp [ints, dfO, rows, bools, ksC_set, hxt, hks]
   ·obtain rfl : x = L := by omega
    obtain ⟨ky, hky⟩ : ∃ ky, ky = keyQ x nxt p q := ⟨_, rfl⟩
    have hk7 : ky.length = 7 := by rw [hky]; simp
    have hkc := ksC_key ky
    have htk : List.take 7 (ksC ky) = ksC ky := List.take_of_length_le (by simp [hk7])
    have hlen7 : ∀ k ∈ cl, k.length = 7 := fun k hk => by
     obtain ⟨i, -, e⟩ := hN.src hk
     rw [e]; simp
    have hfn : fndT (.sl 99 (ky.map (.int .i64))) (kents ksT 0 cl) = ixA ky cl := fndT_kents (f := ksT) cl 0 (fun y _ => ksT_eq ky y)
    have hall := kents_all2 ksT (P := Tryd.prog) (K := 158) cl 0 (fun a ha => ksT_ok (hlen7 a ha))
    have hkk : kOK Tryd.prog 158 (.sl 99 (ky.map (.int .i64))) = true := ksT_ok hk7
    rw [← hky]
    refine awp_cond (b := false) (p := 2) (by simp [scal] <;> omega) ?_
    refine awp_exit ?_
    show awp _ _ _ _
    cases hxx : ixA ky cl with
    | some j =>
     have hj := ixA_get hxx
     have hje := kents_get ksT cl 0 j _ hj
     have hN2 := hN.hit (j := j) (by rw [hj, hky])
     have hst := rwN_set n (fun i => if i < q then r i else 0) q j
     have hrw : rwN n (fun i => if i = q then j else if i < q then r i else 0) = rwN n (fun i => if i < q + 1 then (if i = q then j else r i) else 0) := rwN_congr fun i hi => by
      by_cases e2 : i = q
      ·subst e2
       rw [if_pos rfl, if_pos (by omega), if_pos rfl]
      ·rw [if_neg e2]
       by_cases e3 : i < q
       ·rw [if_pos e3, if_pos (by omega), if_neg e2]
       ·rw [if_neg e3, if_neg (by omega)]
     clear hky
     refine awp_seqR fun K hK => ?_
     simp (maxSteps := 2000000) (disch := omega) [ints, rows, scal, wr64, wr8, hkc, htk, hk7, hfn, hxx, hall, hkk, hz1, hje]
     (repeat' first | apply hK | apply And.intro) <;> try first | (show okH _ _ _ = true; kernel_rfl) | omega | rfl | (simp <;> omega)
     refine awp_seq ?_
     refine awp_seqR fun K hK => ?_
     simp (maxSteps := 2000000) (disch := omega) [ints, rows, scal, wr64, wr8]
     (repeat' first | apply hK | apply And.intro) <;> try first | (show okH _ _ _ = true; kernel_rfl) | omega | rfl | (simp <;> omega)
     refine awp_cond (b := false) (p := 2) (by simp [scal] <;> omega) ?_
     refine awp_skip ?_
     show awp _ _ _ _
     refine awp_R fun K hK => ?_
     simp (maxSteps := 2000000) (disch := omega) [ints, rows, scal, wr64, wr8]
     (repeat' first | apply hK | apply And.intro) <;> try first | (show okH _ _ _ = true; kernel_rfl) | omega | rfl | (simp <;> omega)
     show awp _ _ _ _
     refine awp_R fun K hK => ?_
     simp (maxSteps := 2000000) (disch := omega) [ints, rows, scal, wr64, wr8]
     (repeat' first | apply hK | apply And.intro) <;> try first | (show okH _ _ _ = true; kernel_rfl) | omega | rfl | (simp <;> omega)
     refine ⟨(q + 1, cl, fun i => if i = q then j else r i), ⟨hN2, by simp only; omega⟩, by simp only; omega, ?_⟩
     refine wk_list [(0, some 0), (1, some 1), (2, some 2), (3, some 3)] rfl ?_ ?_ ?_ ?_
     all_goals try simp [ints, dfO, rows, bools, hst, hrw]
    | none =>
     have hnm := ixA_none hxx
     have hN2 := hN.miss (by rw [← hky]; exact hnm)
     have hst := rwN_set n (fun i => if i < q then r i else 0) q cl.length
     have hrw : rwN n (fun i => if i = q then cl.length else if i < q then r i else 0) = rwN n (fun i => if i < q + 1 then (if i = q then cl.length else r i) else 0) := rwN_congr fun i hi => by
      by_cases e2 : i = q
      ·subst e2
       rw [if_pos rfl, if_pos (by omega), if_pos rfl]
      ·rw [if_neg e2]
       by_cases e3 : i < q
       ·rw [if_pos e3, if_pos (by omega), if_neg e2]
       ·rw [if_neg e3, if_neg (by omega)]
     rw [← hky] at hN2
     clear hky
     refine awp_seqR fun K hK => ?_
     simp (maxSteps := 2000000) (disch := omega) [ints, rows, scal, wr64, wr8, hkc, htk, hk7, hfn, hxx, hall, hkk, hz1]
     (repeat' first | apply hK | apply And.intro) <;> try first | (show okH _ _ _ = true; kernel_rfl) | omega | rfl | (simp <;> omega)
     refine awp_seq ?_
     refine awp_seqR fun K hK => ?_
     simp (maxSteps := 2000000) (disch := omega) [ints, rows, scal, wr64, wr8]
     (repeat' first | apply hK | apply And.intro) <;> try first | (show okH _ _ _ = true; kernel_rfl) | omega | rfl | (simp <;> omega)
     refine awp_cond (b := true) (p := 2) (by simp [scal] <;> omega) ?_
     refine awp_seqR fun K hK => ?_
     simp (maxSteps := 2000000) (disch := omega) [ints, rows, scal, wr64, wr8, kents_len]
     (repeat' first | apply hK | apply And.intro) <;> try first | (show okH _ _ _ = true; kernel_rfl) | omega | rfl | (simp <;> omega)
     refine awp_R fun K hK => ?_
     simp (maxSteps := 2000000) (disch := omega) [ints, rows, scal, wr64, wr8, hkc, htk, hk7, hfn, hxx, hall, hkk]
     (repeat' first | apply hK | apply And.intro) <;> try first | (show okH _ _ _ = true; kernel_rfl) | omega | rfl | (simp <;> omega)
     show awp _ _ _ _
     refine awp_R fun K hK => ?_
     simp (maxSteps := 2000000) (disch := omega) [ints, rows, scal, wr64, wr8]
     (repeat' first | apply hK | apply And.intro) <;> try first | (show okH _ _ _ = true; kernel_rfl) | omega | rfl | (simp <;> omega)
     show awp _ _ _ _
     refine awp_R fun K hK => ?_
     simp (maxSteps := 2000000) (disch := omega) [ints, rows, scal, wr64, wr8]
     (repeat' first | apply hK | apply And.intro) <;> try first | (show okH _ _ _ = true; kernel_rfl) | omega | rfl | (simp <;> omega)
     refine ⟨(q + 1, cl ++ [ky], fun i => if i = q then cl.length else r i), ⟨hN2, by simp only; omega⟩, by simp only; omega, ?_⟩
     refine wk_list [(0, some 0), (1, some 1), (2, some 2), (3, some 3)] rfl ?_ ?_ ?_ ?_
     all_goals try simp [ints, dfO, rows, bools, hst, hrw, kents_snoc, ksT]
  ·have hqe : n = q := by omega
   subst q
   have hrw : rwN n (fun i => if i < n then r i else 0) = rwN n r := rwN_congr fun i hi => by rw [if_pos hi]
   rw [hrw]
   refine awp_cond (b := false) (p := 2) (by simp [scal] <;> omega) ?_
   refine awp_exit ?_
   show awp _ _ _ _
   refine awp_seq ?_
   by_cases he : cl.length = cv p n
   ·have hC := hN.end_ h hL2 hp he
    refine awp_seqR fun K hK => ?_
    simp (maxSteps := 2000000) (disch := omega) [ints, rows, scal, wr64, wr8, kents_len, he]
    (repeat' first | apply hK | apply And.intro) <;> try first | (show okH _ _ _ = true; kernel_rfl) | omega | rfl | (simp <;> omega)
    refine awp_cond (b := true) (p := 2) (by simp [scal] <;> omega) ?_
    refine awp_seqR fun K hK => ?_
    simp (maxSteps := 2000000) (disch := omega) [ints, rows, scal, wr64, wr8]
    (repeat' first | apply hK | apply And.intro) <;> try first | (show okH _ _ _ = true; kernel_rfl) | omega | rfl | (simp <;> omega)
    refine awp_ret ?_
    refine ⟨_, ⟨r, hC, rfl⟩, ?_⟩
    refine ⟨⟨.inr rfl, _, [], rfl, trivial, trivial, by simp [dfT], ?_⟩, by simp [dfT]⟩
    simp [dfT]
   ·have hei : ¬ (cl.length : Int) = (cv p n : Int) := by omega
    have hmore := hN.more h hL2 hp he
    refine awp_seqR fun K hK => ?_
    simp (maxSteps := 2000000) (disch := omega) [ints, rows, scal, wr64, wr8, kents_len, hei, he]
    (repeat' first | apply hK | apply And.intro) <;> try first | (show okH _ _ _ = true; kernel_rfl) | omega | rfl | (simp <;> omega)
    refine awp_cond (b := false) (p := 2) (by simp [scal] <;> omega) ?_
    refine awp_skip ?_
    show awp _ _ _ _
    refine awp_R fun K hK => ?_
    simp (maxSteps := 2000000) (disch := omega) [ints, rows, scal, wr64, wr8, kents_len]
    (repeat' first | apply hK | apply And.intro) <;> try first | (show okH _ _ _ = true; kernel_rfl) | omega | rfl | (simp <;> omega)
    refine ⟨r, (hN.finer h hL2 hp).1, by omega, ?_⟩
    refine wk_list [(0, some 0), (1, some 3)] rfl ?_ ?_ ?_ ?_
    all_goals try simp [ints, dfO, rows, bools, hcl]
end Go.Proofs.YtnffigeofdagfaaDoor.M
