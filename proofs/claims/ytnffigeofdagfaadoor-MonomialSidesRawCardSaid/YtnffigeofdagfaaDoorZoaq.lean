/-
  Walks in my logic: both, Classes.
  The quotient of an automaton by a partition of its states, in plain Lean.
-/
import Derived.Test.YtnffigeofdagfaaDoorZoao
import Derived.Test.YtnffigeofdagfaaDoorZoap
namespace Go.Proofs.YtnffigeofdagfaaDoor.M
open Go.RowKit
set_option linter.unusedVariables false
set_option linter.unusedSimpArgs false

theorem natL_get {n : Nat} {r : Nat → Nat} {i : Nat} (h : i < n) : (natL n r)[i]? = some (r i : Int) := tab_get _ h
@[simp] theorem natL_len (n : Nat) (r : Nat → Nat) : (natL n r).length = n := by simp [natL]
theorem mul_small {a n b : Nat} (ha : a ≤ 512) (hb : b ≤ 512) (hn : n ≤ 512) : (a : Int) * ((n : Int) + 1) ≤ 262656 ∧ 0 ≤ (a : Int) * ((n : Int) + 1) := by
 have h1 : a * (n + 1) ≤ 512 * 513 := Nat.mul_le_mul ha (by omega)
 have e : (a : Int) * ((n : Int) + 1) = ((a * (n + 1) : Nat) : Int) := by push_cast; rfl
 rw [e]
 omega
theorem pair_inj {a b c d n : Nat} (hb : b ≤ n) (hd : d ≤ n) (h : (a : Int) * ((n : Int) + 1) + b = (c : Int) * ((n : Int) + 1) + d) : a = c ∧ b = d := by
 have e : a * (n + 1) + b = c * (n + 1) + d := by
  have := h
  have e1 : (a : Int) * ((n : Int) + 1) + b = ((a * (n + 1) + b : Nat) : Int) := by push_cast; rfl
  have e2 : (c : Int) * ((n : Int) + 1) + d = ((c * (n + 1) + d : Nat) : Int) := by push_cast; rfl
  rw [e1, e2] at this
  omega
 have h1 : (a * (n + 1) + b) / (n + 1) = a := by rw [Nat.mul_comm, Nat.mul_add_div (by omega), Nat.div_eq_of_lt (by omega)]; rfl
 have h2 : (c * (n + 1) + d) / (n + 1) = c := by rw [Nat.mul_comm, Nat.mul_add_div (by omega), Nat.div_eq_of_lt (by omega)]; rfl
 have : a = c := by rw [← h1, ← h2, e]
 subst this
 exact ⟨rfl, by omega⟩
set_option maxRecDepth 100000 in
set_option maxHeartbeats 4000000 in
theorem both_fn (n : Nat) (p q : Nat → Nat) (hn : n ≤ 512) (hp : ∀ i, i < n → p i ≤ n) (hq : ∀ i, i < n → q i ≤ n) : ∃ res, (∃ r, POK r n ∧ (∀ i j, i < n → j < n → (r i = r j ↔ (p i = p j ∧ q i = q j))) ∧ res = .t 2 (ints (natL n r))) ∧ FnS Tryd.prog 90 [.t 0 (ints (natL n p)), .t 0 (ints (natL n q))] [] res [] := by
 obtain ⟨res, ⟨r, hr1, hr2, rfl⟩, hnum⟩ := number_fn (tab n fun i => (p i : Int) * ((n : Int) + 1) + q i) (by simp; omega)
 simp only [tab_len] at hr1 hr2
 refine fn_introE Tryd.func90 rfl (by simp [Tryd.f90]) ?_
 rw [show Tryd.f90.ntmps = 34 from rfl, show Tryd.f90.results = #[.tmp 4] from rfl]
 refine awp_seqR fun K hK => ?_
 simp (disch := omega) [ints, rows, scal, wr64, wr8]
 (repeat' first | apply hK | apply And.intro) <;> try first | (show okH _ _ _ = true; kernel_rfl) | omega | rfl | (simp <;> omega)
 refine awp_seqR fun K hK => ?_
 simp (disch := omega) [ints, rows, scal, wr64, wr8]
 (repeat' first | apply hK | apply And.intro) <;> try first | (show okH _ _ _ = true; kernel_rfl) | omega | rfl | (simp <;> omega)
 refine awp_seq ?_
 refine awp_seqR fun K hK => ?_
 simp (disch := omega) [ints, rows, scal, wr64, wr8]
 (repeat' first | apply hK | apply And.intro) <;> try first | (show okH _ _ _ = true; kernel_rfl) | omega | rfl | (simp <;> omega)
 refine awp_block ?_
 refine awp_loop (fun k : Nat => mkS [(0, .t 0 (ints (natL n p))), (1, .t 0 (ints (natL n q))), (5, .own 0 n), (11, .t 2 (.int .i64 n)), (12, .t 2 (.int .i64 k))] [(0, .row 3 1 2 (tab n fun i => .int .i64 (if i < k then (p i : Int) * ((n : Int) + 1) + q i else 0)))] 1 34 [.any, .any]) (fun k => k ≤ n) (fun k => n - k) ?_ ?_
 ·refine ⟨0, by omega, ?_⟩
  refine wk_list [(0, some 3000000)] rfl ?_ ?_ ?_ ?_
  all_goals try simp [ints, rep_tab]
 ·intro k hk
  refine awp_seqR fun K hK => ?_
  simp (disch := omega) [ints, rows, scal, wr64, wr8]
  (repeat' first | apply hK | apply And.intro) <;> try first | (show okH _ _ _ = true; kernel_rfl) | omega | rfl | (simp <;> omega)
  refine awp_seq ?_
  by_cases hkn : k < n
  ·obtain ⟨m1, m2⟩ := mul_small (a := p k) (b := q k) (Nat.le_trans (hp k hkn) hn) (Nat.le_trans (hq k hkn) hn) hn
   have hpk := hp k hkn
   have hqk := hq k hkn
   have g1 := natL_get (r := p) hkn
   have g2 := natL_get (r := q) hkn
   refine awp_cond (b := true) (p := 2) (by simp [scal, hkn] <;> omega) ?_
   refine awp_skip ?_
   show awp _ _ _ _
   refine awp_seq ?_
   refine awp_block ?_
   refine awp_seqR fun K hK => ?_
   simp (disch := omega) [ints, rows, scal, wr64, wr8]
   (repeat' first | apply hK | apply And.intro) <;> try first | (show okH _ _ _ = true; kernel_rfl) | omega | rfl | (simp <;> omega)
   refine awp_RD (by kernel_rfl) (fun K hK => ?_)
   simp (disch := omega) [ints, rows, scal, wr64, wr8, hkn, natL, tab_map]
   (repeat' first | apply hK | apply And.intro) <;> try first | (show chkD _ _ = true; kernel_rfl) | (show okH _ _ _ = true; kernel_rfl) | omega | rfl | (simp <;> omega)
   show awp _ _ _ _
   refine awp_R fun K hK => ?_
   simp (disch := omega) [ints, rows, scal, wr64, wr8]
   (repeat' first | apply hK | apply And.intro) <;> try first | (show okH _ _ _ = true; kernel_rfl) | omega | rfl | (simp <;> omega)
   refine ⟨k + 1, by omega, by omega, ?_⟩
   refine wk_list [(0, some 0)] rfl ?_ ?_ ?_ ?_
   all_goals try simp [ints, tab_set, natL, tab_map]
   refine tab_congr (fun i hi => ?_)
   by_cases e : i = k
   ·simp [e]
   ·simp [e, show i < k + 1 ↔ i < k by omega]
  ·have hke : k = n := by omega
   refine awp_cond (b := false) (p := 2) (by simp [scal, hkn] <;> omega) ?_
   refine awp_exit ?_
   show awp _ _ _ _
   subst hke
   have he : (tab k fun i => T.int IntKind.i64 (if i < k then (p i : Int) * ((k : Int) + 1) + q i else 0)) = tab k fun i => T.int IntKind.i64 ((p i : Int) * ((k : Int) + 1) + q i) := tab_congr (fun i hi => by rw [if_pos hi])
   refine awp_seqR fun K hK => ?_
   simp (disch := omega) [ints, rows, scal, wr64, wr8]
   (repeat' apply And.intro)
   all_goals (try omega)
   refine call_rule (caps := []) (hnum) [] [] 2 rfl rfl rfl rfl (by kernel_rfl) (by simp) ?_ trivial trivial rfl trivial trivial (by simp) ?_
   ·simp [scal, rows, ints, tab_map, he]
   simp (disch := omega) [ints, rows, scal, wr64, wr8]
   (repeat' first | apply hK | apply And.intro) <;> try first | (show okH _ _ _ = true; kernel_rfl) | omega | rfl | (simp <;> omega)
   refine awp_ret ?_
   refine ⟨_, ⟨r, hr1, fun i j hi hj => ?_, rfl⟩, ?_⟩
   ·rw [hr2 i j _ _ (tab_get _ hi) (tab_get _ hj)]
    constructor
    ·intro h
     exact pair_inj (hq i hi) (hq j hj) h
    ·rintro ⟨h1, h2⟩
     rw [h1, h2]
   ·refine ⟨⟨.inr rfl, _, [], rfl, trivial, trivial, by simp [ints], ?_⟩, by simp [ints]⟩
    simp [ints]
structure ClG (L n : Nat) (bs : List Bool) (nxt : List (List Int)) (r : Nat → Nat) : Prop where
 ok : POK r n
 st : ∀ i j, i < n → j < n → r i = r j → bs[i]? = bs[j]? ∧ ∀ x, x < L → r (stepR nxt i x) = r (stepR nxt j x)
 co : ∀ i j, i < n → j < n → LQ L bs nxt i j → r i = r j
set_option maxRecDepth 100000 in
set_option maxHeartbeats 4000000 in
theorem classes_fn {L n s : Nat} {bs : List Bool} {nxt : List (List Int)} (h : DfL L n s bs nxt) (hL : 1 ≤ L) (hL2 : L ≤ 6) (hn : n ≤ 512) : ∃ res, (∃ r, ClG L n bs nxt r ∧ res = .t 2 (ints (natL n r))) ∧ FnS Tryd.prog 71 [dfT 0 L s bs nxt] [] res [] := by
 have hnl := h.nl
 have hbl := h.bl
 have hrt := h.rt
 obtain ⟨f, hf⟩ : ∃ f : Nat → Int, f = fun i => if bs[i]? = some true then 1 else 0 := ⟨_, rfl⟩
 obtain ⟨res0, ⟨r0, hr1, hr2, rfl⟩, hnum⟩ := number_fn (tab n f) (by simp; omega)
 simp only [tab_len] at hr1 hr2
 have hr3 : ∀ i j, i < n → j < n → r0 i = r0 j → bs[i]? = bs[j]? := fun i j hi hj e => by
  have := (hr2 i j _ _ (tab_get _ hi) (tab_get _ hj)).1 e
  rw [hf] at this
  have hi2 : i < bs.length := by omega
  have hj2 : j < bs.length := by omega
  simp only [List.getElem?_eq_getElem hi2, List.getElem?_eq_getElem hj2, Option.some.injEq] at this ⊢
  cases h1 : bs[i] <;> cases h2 : bs[j] <;> simp [h1, h2] at this ⊢
 have hr4 : ∀ i j, i < n → j < n → LQ L bs nxt i j → r0 i = r0 j := fun i j hi hj e => by
  refine (hr2 i j _ _ (tab_get _ hi) (tab_get _ hj)).2 ?_
  simp only [hf, e.fin (show i < bs.length by omega) (show j < bs.length by omega)]
 refine fn_introE Tryd.func71 rfl (by simp [Tryd.f71]) ?_
 rw [show Tryd.f71.ntmps = 64 from rfl, show Tryd.f71.results = #[.tmp 2] from rfl]
 refine awp_seqR fun K hK => ?_
 simp (disch := omega) [ints, rows, scal, wr64, wr8, dfT, bools]
 (repeat' first | apply hK | apply And.intro) <;> try first | (show okH _ _ _ = true; kernel_rfl) | omega | rfl | (simp <;> omega)
 refine awp_seqR fun K hK => ?_
 simp (disch := omega) [ints, rows, scal, wr64, wr8, hbl]
 (repeat' first | apply hK | apply And.intro) <;> try first | (show okH _ _ _ = true; kernel_rfl) | omega | rfl | (simp <;> omega)
 refine awp_seq ?_
 refine awp_seqR fun K hK => ?_
 simp (disch := omega) [ints, rows, scal, wr64, wr8]
 (repeat' first | apply hK | apply And.intro) <;> try first | (show okH _ _ _ = true; kernel_rfl) | omega | rfl | (simp <;> omega)
 refine awp_block ?_
 refine awp_loop (fun k : Nat => mkS [(1, .ptr 0 0 4), (3, .own 1 n), (14, .t 2 (.int .i64 n)), (15, .t 2 (.int .i64 k))] [(0, .box 32 [.t 2 (.int .i64 L), .t 2 (.int .i64 s), .t 0 (bools bs), .t 0 (rows nxt)]), (1, .row 3 1 2 (tab n fun i => .int .i64 (if i < k then f i else 0)))] 2 64 [.any]) (fun k => k ≤ n) (fun k => n - k) ?_ ?_
 ·refine ⟨0, by omega, ?_⟩
  refine wk_list [(0, some 0), (1, some 5000000)] rfl ?_ ?_ ?_ ?_
  all_goals try simp [ints, rep_tab, rows, bools, dfT]
 ·intro k hk
  refine awp_seqR fun K hK => ?_
  simp (disch := omega) [ints, rows, scal, wr64, wr8]
  (repeat' first | apply hK | apply And.intro) <;> try first | (show okH _ _ _ = true; kernel_rfl) | omega | rfl | (simp <;> omega)
  refine awp_seq ?_
  by_cases hkn : k < n
  ·have hkb : k < bs.length := by omega
   refine awp_cond (b := true) (p := 2) (by simp [scal, hkn] <;> omega) ?_
   refine awp_skip ?_
   show awp _ _ _ _
   refine awp_seq ?_
   refine awp_block ?_
   refine awp_seqR fun K hK => ?_
   simp (disch := omega) [ints, rows, scal, wr64, wr8]
   (repeat' first | apply hK | apply And.intro) <;> try first | (show okH _ _ _ = true; kernel_rfl) | omega | rfl | (simp <;> omega)
   cases hb : bs[k] with
   | true =>
    have hfk : f k = 1 := by rw [hf]; simp [hkb, hb]
    refine awp_seqR fun K hK => ?_
    simp (disch := omega) [ints, rows, scal, wr64, wr8, bools, hkb, hb]
    (repeat' first | apply hK | apply And.intro) <;> try first | (show okH _ _ _ = true; kernel_rfl) | omega | rfl | (simp <;> omega)
    refine awp_cond (b := true) (p := 2) (by simp [scal] <;> omega) ?_
    refine awp_R fun K hK => ?_
    simp (disch := omega) [ints, rows, scal, wr64, wr8, hkn]
    (repeat' first | apply hK | apply And.intro) <;> try first | (show okH _ _ _ = true; kernel_rfl) | omega | rfl | (simp <;> omega)
    show awp _ _ _ _
    refine awp_R fun K hK => ?_
    simp (disch := omega) [ints, rows, scal, wr64, wr8]
    (repeat' first | apply hK | apply And.intro) <;> try first | (show okH _ _ _ = true; kernel_rfl) | omega | rfl | (simp <;> omega)
    refine ⟨k + 1, by omega, by omega, ?_⟩
    refine wk_list [(0, some 0), (1, some 1)] rfl ?_ ?_ ?_ ?_
    all_goals try simp [ints, tab_set, rows, bools]
    refine tab_congr (fun i hi => ?_)
    by_cases e : i = k
    ·subst e; simp [hfk]
    ·simp [e, show i < k + 1 ↔ i < k by omega]
   | false =>
    have hfk : f k = 0 := by rw [hf]; simp [hkb, hb]
    refine awp_seqR fun K hK => ?_
    simp (disch := omega) [ints, rows, scal, wr64, wr8, bools, hkb, hb]
    (repeat' first | apply hK | apply And.intro) <;> try first | (show okH _ _ _ = true; kernel_rfl) | omega | rfl | (simp <;> omega)
    refine awp_cond (b := false) (p := 2) (by simp [scal] <;> omega) ?_
    refine awp_skip ?_
    show awp _ _ _ _
    refine awp_R fun K hK => ?_
    simp (disch := omega) [ints, rows, scal, wr64, wr8]
    (repeat' first | apply hK | apply And.intro) <;> try first | (show okH _ _ _ = true; kernel_rfl) | omega | rfl | (simp <;> omega)
    refine ⟨k + 1, by omega, by omega, ?_⟩
    refine wk_list [(0, some 0), (1, some 1)] rfl ?_ ?_ ?_ ?_
    all_goals try simp [ints, rows, bools]
    refine tab_congr (fun i hi => ?_)
    by_cases e : i = k
    ·subst e; simp [hfk]
    ·simp [show i < k + 1 ↔ i < k by omega]
  ·have hke : k = n := by omega
   refine awp_cond (b := false) (p := 2) (by simp [scal, hkn] <;> omega) ?_
   refine awp_exit ?_
   show awp _ _ _ _
   subst hke
   have he : (tab k fun i => T.int IntKind.i64 (if i < k then f i else 0)) = tab k fun i => T.int IntKind.i64 (f i) := tab_congr (fun i hi => by rw [if_pos hi])
   refine awp_seqR fun K hK => ?_
   simp (disch := omega) [ints, rows, scal, wr64, wr8]
   (repeat' apply And.intro)
   all_goals (try omega)
   refine call_rule (caps := []) (hnum) [] [] 2 rfl rfl rfl rfl (by kernel_rfl) (by simp) ?_ trivial trivial rfl trivial trivial (by simp) ?_
   ·simp [scal, rows, ints, tab_map, he]
   simp (disch := omega) [ints, rows, scal, wr64, wr8]
   (repeat' first | apply hK | apply And.intro) <;> try first | (show okH _ _ _ = true; kernel_rfl) | omega | rfl | (simp <;> omega)
   refine awp_block ?_
   refine awp_loop (fun p : Nat → Nat => mkS [(1, .ptr 0 0 4), (3, .t 2 (ints (natL k p)))] [(0, .box 32 [.t 2 (.int .i64 L), .t 2 (.int .i64 s), .t 0 (bools bs), .t 0 (rows nxt)])] 1 64 [.any]) (fun p => POK p k ∧ (∀ i j, i < k → j < k → p i = p j → bs[i]? = bs[j]?) ∧ ∀ i j, i < k → j < k → LQ L bs nxt i j → p i = p j) (fun p => k - cv p k) ?_ ?_
   ·refine ⟨r0, ⟨hr1, hr3, hr4⟩, ?_⟩
    refine wk_list [(0, some 0)] rfl ?_ ?_ ?_ ?_
    all_goals try simp [ints, rows, bools]
   ·rintro p ⟨hp, hpf, hpc⟩
    have hpk : ∀ i, i < k → p i ≤ k := fun i hi => Nat.le_trans (hp i hi) (Nat.le_trans (cv_le p i) (by omega))
    refine awp_block ?_
    refine awp_seqR fun K hK => ?_
    simp (disch := omega) [ints, rows, scal, wr64, wr8]
    (repeat' first | apply hK | apply And.intro) <;> try first | (show okH _ _ _ = true; kernel_rfl) | omega | rfl | (simp <;> omega)
    refine awp_seq ?_
    refine awp_seqR fun K hK => ?_
    simp (disch := omega) [ints, rows, scal, wr64, wr8]
    (repeat' first | apply hK | apply And.intro) <;> try first | (show okH _ _ _ = true; kernel_rfl) | omega | rfl | (simp <;> omega)
    refine awp_block ?_
    refine awp_loop (fun y : Nat × (Nat → Nat) => mkS [(1, .ptr 0 0 4), (3, .t 2 (ints (natL k p))), (5, .t 2 (ints (natL k y.2))), (6, .t 2 (.int .i64 y.1))] [(0, .box 32 [.t 2 (.int .i64 L), .t 2 (.int .i64 s), .t 0 (bools bs), .t 0 (rows nxt)])] 1 64 [.any]) (fun y => y.1 ≤ L ∧ POK y.2 k ∧ (∀ i j, i < k → j < k → y.2 i = y.2 j → p i = p j ∧ ∀ x, x < y.1 → p (stepR nxt i x) = p (stepR nxt j x)) ∧ ∀ i j, i < k → j < k → LQ L bs nxt i j → y.2 i = y.2 j) (fun y => L - y.1) ?_ ?_
    ·refine ⟨(0, p), ⟨by simp, hp, fun i j _ _ e => ⟨e, fun x hx => by simp at hx⟩, hpc⟩, ?_⟩
     refine wk_list [(0, some 0)] rfl ?_ ?_ ?_ ?_
     all_goals try simp [ints, rows, bools]
    ·rintro ⟨x, nx⟩ ⟨hx, hnx, hfine, hco⟩
     simp only at hx hnx hfine hco
     refine awp_seq ?_
     refine awp_seqR fun K hK => ?_
     simp (disch := omega) [ints, rows, scal, wr64, wr8]
     (repeat' first | apply hK | apply And.intro) <;> try first | (show okH _ _ _ = true; kernel_rfl) | omega | rfl | (simp <;> omega)
     by_cases hxl : x < L
     ·obtain ⟨res1, ⟨r1, ha1, ha2, rfl⟩, hboth⟩ := both_fn k nx (fun q => p (stepR nxt q x)) hn (fun i hi => Nat.le_trans (hnx i hi) (Nat.le_trans (cv_le nx i) (by omega))) (fun i hi => hpk _ (hrt.step hi hxl).1)
      refine awp_cond (b := true) (p := 2) (by simp [scal, hxl] <;> omega) ?_
      refine awp_skip ?_
      show awp _ _ _ _
      refine awp_seq ?_
      refine awp_block ?_
      refine awp_seqR fun K hK => ?_
      simp (disch := omega) [ints, rows, scal, wr64, wr8]
      (repeat' first | apply hK | apply And.intro) <;> try first | (show okH _ _ _ = true; kernel_rfl) | omega | rfl | (simp <;> omega)
      refine awp_seq ?_
      refine awp_seqR fun K hK => ?_
      simp (disch := omega) [ints, rows, scal, wr64, wr8]
      (repeat' first | apply hK | apply And.intro) <;> try first | (show okH _ _ _ = true; kernel_rfl) | omega | rfl | (simp <;> omega)
      refine awp_block ?_
      refine awp_loop (fun q : Nat => mkS [(1, .ptr 0 0 4), (3, .t 2 (ints (natL k p))), (5, .t 2 (ints (natL k nx))), (6, .t 2 (.int .i64 x)), (7, .own 1 q), (37, .t 2 (.int .i64 k)), (38, .t 2 (.int .i64 q))] [(0, .box 32 [.t 2 (.int .i64 L), .t 2 (.int .i64 s), .t 0 (bools bs), .t 0 (rows nxt)]), (1, .row 3 1 2 (tab q fun j => .int .i64 (p (stepR nxt j x))))] 2 64 [.any]) (fun q => q ≤ k) (fun q => k - q) ?_ ?_
      ·refine ⟨0, by omega, ?_⟩
       refine wk_list [(0, some 0), (1, none)] rfl ?_ ?_ ?_ ?_
       all_goals try simp [ints, rows, bools]
      ·intro q hq
       refine awp_seqR fun K hK => ?_
       simp (disch := omega) [ints, rows, scal, wr64, wr8]
       (repeat' first | apply hK | apply And.intro) <;> try first | (show okH _ _ _ = true; kernel_rfl) | omega | rfl | (simp <;> omega)
       refine awp_seq ?_
       by_cases hqk : q < k
       ·obtain ⟨s1, s2, s3, s4⟩ := hrt.step hqk hxl
        refine awp_cond (b := true) (p := 2) (by simp [scal, hqk] <;> omega) ?_
        refine awp_skip ?_
        show awp _ _ _ _
        refine awp_seq ?_
        refine awp_block ?_
        refine awp_seqR fun K hK => ?_
        simp (disch := omega) [ints, rows, scal, wr64, wr8]
        (repeat' first | apply hK | apply And.intro) <;> try first | (show okH _ _ _ = true; kernel_rfl) | omega | rfl | (simp <;> omega)
        refine awp_R fun K hK => ?_
        simp (disch := omega) [ints, rows, scal, wr64, wr8, s2, s3, s4, natL, tab_map, s1]
        (repeat' first | apply hK | apply And.intro) <;> try first | (show okH _ _ _ = true; kernel_rfl) | omega | rfl | (simp <;> omega)
        show awp _ _ _ _
        refine awp_R fun K hK => ?_
        simp (disch := omega) [ints, rows, scal, wr64, wr8]
        (repeat' first | apply hK | apply And.intro) <;> try first | (show okH _ _ _ = true; kernel_rfl) | omega | rfl | (simp <;> omega)
        refine ⟨q + 1, by omega, by omega, ?_⟩
        refine wk_list [(0, some 0), (1, some 1)] rfl ?_ ?_ ?_ ?_
        all_goals try simp [ints, rows, bools, tab_succ, natL, tab_map]
       ·have hqe : q = k := by omega
        refine awp_cond (b := false) (p := 2) (by simp [scal, hqk] <;> omega) ?_
        refine awp_exit ?_
        show awp _ _ _ _
        subst hqe
        refine awp_R fun K hK => ?_
        simp (disch := omega) [ints, rows, scal, wr64, wr8]
        (repeat' apply And.intro)
        all_goals (try omega)
        refine call_rule (caps := []) (hboth) [] [] 2 rfl rfl rfl rfl (by kernel_rfl) (by simp) ?_ trivial trivial rfl trivial trivial (by simp) ?_
        ·simp [scal, rows, ints, natL, tab_map]
        simp (disch := omega) [ints, rows, scal, wr64, wr8]
        (repeat' first | apply hK | apply And.intro) <;> try first | (show okH _ _ _ = true; kernel_rfl) | omega | rfl | (simp <;> omega)
        show awp _ _ _ _
        refine awp_R fun K hK => ?_
        simp (disch := omega) [ints, rows, scal, wr64, wr8]
        (repeat' first | apply hK | apply And.intro) <;> try first | (show okH _ _ _ = true; kernel_rfl) | omega | rfl | (simp <;> omega)
        refine ⟨(x + 1, r1), ⟨by omega, ha1, fun i j hi hj e => ?_, fun i j hi hj e => (ha2 i j hi hj).2 ⟨hco i j hi hj e, hpc _ _ (hrt.step hi hxl).1 (hrt.step hj hxl).1 (e.step hxl)⟩⟩, by simp; omega, ?_⟩
        ·obtain ⟨e1, e2⟩ := (ha2 i j hi hj).1 e
         obtain ⟨e3, e4⟩ := hfine i j hi hj e1
         refine ⟨e3, fun y hy => ?_⟩
         by_cases eq : y = x
         ·subst eq; exact e2
         ·exact e4 y (by simp at hy; omega)
        ·refine wk_list [(0, some 0)] rfl ?_ ?_ ?_ ?_
         all_goals try simp [ints, rows, bools]
     ·have hxe : x = L := by omega
      subst hxe
      refine awp_cond (b := false) (p := 2) (by simp [scal] <;> omega) ?_
      refine awp_exit ?_
      show awp _ _ _ _
      refine awp_seq ?_
      refine awp_seqR fun K hK => ?_
      simp (disch := omega) [ints, rows, scal, wr64, wr8]
      (repeat' apply And.intro)
      all_goals (try omega)
      refine call_rule (caps := []) (same_fn (natL k nx) (natL k p) (by simp; omega)) [] [] 2 rfl rfl rfl rfl (by kernel_rfl) (by simp) ?_ trivial trivial rfl trivial trivial (by simp) ?_
      ·simp [scal, rows, ints]
      simp (disch := omega) [ints, rows, scal, wr64, wr8]
      (repeat' first | apply hK | apply And.intro) <;> try first | (show okH _ _ _ = true; kernel_rfl) | omega | rfl | (simp <;> omega)
      by_cases hs : natL k nx = natL k p
      ·have hsi : ∀ i, i < k → nx i = p i := fun i hi => by
        have h1 := natL_get (r := nx) hi
        rw [hs, natL_get hi] at h1
        simp at h1
        omega
       refine awp_cond (b := true) (p := 2) (by simp [scal, hs] <;> omega) ?_
       refine awp_seqR fun K hK => ?_
       simp (disch := omega) [ints, rows, scal, wr64, wr8]
       (repeat' first | apply hK | apply And.intro) <;> try first | (show okH _ _ _ = true; kernel_rfl) | omega | rfl | (simp <;> omega)
       refine awp_ret ?_
       refine ⟨_, ⟨p, ⟨hp, fun i j hi hj e => ?_, hpc⟩, rfl⟩, ?_⟩
       ·obtain ⟨e1, e2⟩ := hfine i j hi hj (by rw [hsi i hi, hsi j hj, e])
        exact ⟨hpf i j hi hj e, e2⟩
       ·refine ⟨⟨.inr rfl, _, [], rfl, trivial, trivial, by simp [ints, dfT], ?_⟩, by simp [ints, dfT]⟩
        simp [ints, dfT]
      ·refine awp_cond (b := false) (p := 2) (by simp [scal, hs] <;> omega) ?_
       refine awp_skip ?_
       show awp _ _ _ _
       refine awp_R fun K hK => ?_
       simp (disch := omega) [ints, rows, scal, wr64, wr8]
       (repeat' first | apply hK | apply And.intro) <;> try first | (show okH _ _ _ = true; kernel_rfl) | omega | rfl | (simp <;> omega)
       have hg : cv p k < cv nx k := by
        rcases pk_grow hp hnx (fun i j hi hj e => (hfine i j hi hj e).1) with g | g
        ·exfalso
         apply hs
         exact tab_congr (fun i hi => by rw [g i hi])
        ·exact g
       have hcl := cv_le nx k
       refine ⟨nx, ⟨hnx, fun i j hi hj e => hpf i j hi hj (hfine i j hi hj e).1, hco⟩, by omega, ?_⟩
       refine wk_list [(0, some 0)] rfl ?_ ?_ ?_ ?_
       all_goals try simp [ints, rows, bools]

set_option linter.unusedSimpArgs false

structure QuI (L : Nat) (bs : List Bool) (nxt : List (List Int)) (p : Nat → Nat) (bs' : List Bool) (nx' : List (List Int)) (k : Nat) : Prop where
 bl : bs'.length = cv p k
 nl : nx'.length = cv p k
 cls : ∀ c, c < cv p k → ∃ q, q < k ∧ p q = c ∧ bs'[c]? = bs[q]? ∧ nx'[c]? = some (tab L fun x => (p (stepR nxt q x) : Int))
theorem QuI.start {L : Nat} {bs : List Bool} {nxt : List (List Int)} {p : Nat → Nat} : QuI L bs nxt p [] [] 0 := ⟨rfl, rfl, fun c hc => by simp [cv] at hc⟩
theorem QuI.old {L : Nat} {bs : List Bool} {nxt : List (List Int)} {p : Nat → Nat} {bs' : List Bool} {nx' : List (List Int)} {k : Nat} (h : QuI L bs nxt p bs' nx' k) (hk : p k ≠ cv p k) : QuI L bs nxt p bs' nx' (k + 1) := by
 have e : cv p (k + 1) = cv p k := by
  show (if p k = cv p k then cv p k + 1 else cv p k) = _
  rw [if_neg hk]
 exact ⟨by rw [e]; exact h.bl, by rw [e]; exact h.nl, fun c hc => by
  rw [e] at hc
  obtain ⟨q, h1, h2⟩ := h.cls c hc
  exact ⟨q, by omega, h2⟩⟩
theorem QuI.new {L : Nat} {bs : List Bool} {nxt : List (List Int)} {p : Nat → Nat} {bs' : List Bool} {nx' : List (List Int)} {k : Nat} {b : Bool} (h : QuI L bs nxt p bs' nx' k) (hk : p k = cv p k) (hb : bs[k]? = some b) : QuI L bs nxt p (bs' ++ [b]) (nx' ++ [tab L fun x => (p (stepR nxt k x) : Int)]) (k + 1) := by
 have e : cv p (k + 1) = cv p k + 1 := by
  show (if p k = cv p k then cv p k + 1 else cv p k) = _
  rw [if_pos hk]
 refine ⟨by simp [e, h.bl], by simp [e, h.nl], fun c hc => ?_⟩
 by_cases ec : c = cv p k
 ·refine ⟨k, by omega, by omega, ?_, ?_⟩
  ·rw [hb, List.getElem?_append_right (by rw [h.bl]; omega), h.bl, ec, Nat.sub_self]; rfl
  ·rw [List.getElem?_append_right (by rw [h.nl]; omega), h.nl, ec, Nat.sub_self]; rfl
 ·obtain ⟨q, h1, h2, h3, h4⟩ := h.cls c (by omega)
  refine ⟨q, by omega, h2, ?_, ?_⟩
  ·rw [List.getElem?_append_left (by rw [h.bl]; omega)]; exact h3
  ·rw [List.getElem?_append_left (by rw [h.nl]; omega)]; exact h4
theorem QuI.fin {L n s : Nat} {bs : List Bool} {nxt : List (List Int)} {p : Nat → Nat} {bs' : List Bool} {nx' : List (List Int)} (hD : DfL L n s bs nxt) (hC : ClG L n bs nxt p) (h : QuI L bs nxt p bs' nx' n) :
  (∀ q, q < n → DfL L (cv p n) (p q) bs' nx') ∧ ∀ w, (∀ a ∈ w, a < L) → ∀ q, q < n → accR bs' nx' (p q) w = accR bs nxt q w := by
 refine ⟨fun q hq => ⟨by have := hC.ok.lt hq hq; omega, hC.ok.lt hq hq, h.bl, h.nl, fun r hr => ?_⟩, fun w hw q hq => ?_⟩
 ·obtain ⟨j, hj, e⟩ := List.getElem_of_mem hr
  obtain ⟨q', h1, h2, h3, h4⟩ := h.cls j (by have := h.nl; omega)
  rw [List.getElem?_eq_getElem hj] at h4
  injection h4 with h4
  rw [e] at h4
  subst h4
  refine ⟨by simp, fun v hv => ?_⟩
  simp only [tab, List.mem_map, List.mem_range] at hv
  obtain ⟨x, hx, rfl⟩ := hv
  have := (hD.rt.step h1 hx).1
  have := hC.ok.lt this this
  omega
 ·refine accR_corr (fun i q => q < n ∧ p q = i) (fun i q e => ?_) (fun i q x e hx => ?_) w hw (p q) q ⟨hq, rfl⟩
  ·obtain ⟨e1, rfl⟩ := e
   obtain ⟨q', h1, h2, h3, h4⟩ := h.cls (p q) (hC.ok.lt e1 e1)
   have := (hC.st q' q h1 e1 h2).1
   simp only [List.getD_eq_getElem?_getD, h3, this]
  ·obtain ⟨e1, rfl⟩ := e
   obtain ⟨q', h1, h2, h3, h4⟩ := h.cls (p q) (hC.ok.lt e1 e1)
   have h5 := (hC.st q' q h1 e1 h2).2 x hx
   have h6 : stepR nx' (p q) x = p (stepR nxt q' x) := stepR_at h4 (tab_get _ hx)
   exact ⟨(hD.rt.step e1 hx).1, by rw [h6, h5]⟩
theorem QuI.dis {L n s : Nat} {bs : List Bool} {nxt : List (List Int)} {p : Nat → Nat} {bs' : List Bool} {nx' : List (List Int)} (hD : DfL L n s bs nxt) (hC : ClG L n bs nxt p) (h : QuI L bs nxt p bs' nx' n) : Dis L (cv p n) bs' nx' := fun i j hi hj e => by
 obtain ⟨q, h1, rfl, -⟩ := h.cls i hi
 obtain ⟨r, h3, rfl, -⟩ := h.cls j hj
 have hl := (h.fin hD hC).2
 exact hC.co q r h1 h3 (fun w hw => by rw [← hl w hw q h1, ← hl w hw r h3, e w hw])
end Go.Proofs.YtnffigeofdagfaaDoor.M
