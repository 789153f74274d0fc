/-
  Walks in my logic: both, Classes.
-/
import Derived.Test.YtghnmmfkckneaaaGreatZsbd
import Derived.Test.YtghnmmfkckneaaaGreatZsbc
namespace Go.Proofs.YtghnmmfkckneaaaGreat.M
open Go.RowKit
set_option linter.unusedVariables false
set_option maxRecDepth 100000
set_option maxHeartbeats 32000000
attribute [local simp] ints rows scal wr64 wr8
set_option linter.unusedSimpArgs false

theorem natL_get {n : Nat} {r : Nat → Nat} {i : Nat} (h : i < n) : (natL n r)[i]? = some (r i : Int) := tab_get _ h
@[simp] theorem natL_len (n : Nat) (r : Nat → Nat) : (natL n r).length = n := by simp [natL]
theorem mul_small {a n b : Nat} (ha : a ≤ 512) (hb : b ≤ 512) (hn : n ≤ 512) : (a : Int) * ((n : Int) + 1) ≤ 262656 ∧ 0 ≤ (a : Int) * ((n : Int) + 1) := by
 have h1 : a * (n + 1) ≤ 512 * 513 := Nat.mul_le_mul ha (by omega)
 have e : (a : Int) * ((n : Int) + 1) = ((a * (n + 1) : Nat) : Int) := by push_cast; rfl
 rw [e]
 omega
theorem pair_inj {a b c d n : Nat} (hb : b ≤ n) (hd : d ≤ n) (h : (a : Int) * ((n : Int) + 1) + b = (c : Int) * ((n : Int) + 1) + d) : a = c ∧ b = d := by
 have e : a * (n + 1) + b = c * (n + 1) + d := by
  have := h
  have e1 : (a : Int) * ((n : Int) + 1) + b = ((a * (n + 1) + b : Nat) : Int) := by push_cast; rfl
  have e2 : (c : Int) * ((n : Int) + 1) + d = ((c * (n + 1) + d : Nat) : Int) := by push_cast; rfl
  rw [e1, e2] at this
  omega
 have h1 : (a * (n + 1) + b) / (n + 1) = a := by rw [Nat.mul_comm, Nat.mul_add_div (by omega), Nat.div_eq_of_lt (by omega)]; rfl
 have h2 : (c * (n + 1) + d) / (n + 1) = c := by rw [Nat.mul_comm, Nat.mul_add_div (by omega), Nat.div_eq_of_lt (by omega)]; rfl
 have : a = c := by rw [← h1, ← h2, e]
 subst this
 exact ⟨rfl, by omega⟩
theorem both_fn (n : Nat) (p q : Nat → Nat) (hn : n ≤ 512) (hp : ∀ i, i < n → p i ≤ n) (hq : ∀ i, i < n → q i ≤ n) : ∃ res, (∃ r, POK r n ∧ (∀ i j, i < n → j < n → (r i = r j ↔ (p i = p j ∧ q i = q j))) ∧ res = .t 2 (ints (natL n r))) ∧ FnS Tryz.prog 112 [.t 0 (ints (natL n p)), .t 0 (ints (natL n q))] [] res [] := by
 obtain ⟨res, ⟨r, hr1, hr2, rfl⟩, hnum⟩ := number_fn (tab n fun i => (p i : Int) * ((n : Int) + 1) + q i) (by simp; omega)
 simp only [tab_len] at hr1 hr2
 refine fn_introE Tryz.func112 rfl (by simp [Tryz.f112]) ?_
 rw [show Tryz.f112.ntmps = 34 from rfl, show Tryz.f112.results = #[.tmp 4] from rfl]
 refine rgS fun K hK => ?_
 simp (disch := omega)
 and_intros <;> try first | apply hK | omega | rfl | simp <;> omega
 refine rgS fun K hK => ?_
 simp (disch := omega)
 and_intros <;> try first | apply hK | omega | rfl | simp <;> omega
 refine awp_seq ?_
 refine rgS fun K hK => ?_
 simp (disch := omega)
 and_intros <;> try first | apply hK | omega | rfl | simp <;> omega
 refine awp_block ?_
 refine awp_loop (fun k : Nat => mkS [(0, .t 0 (ints (natL n p))), (1, .t 0 (ints (natL n q))), (5, .own 0 n), (11, .t 2 (.int .i64 n)), (12, .t 2 (.int .i64 k))] [(0, .row 3 1 2 (tab n fun i => .int .i64 (if i < k then (p i : Int) * ((n : Int) + 1) + q i else 0)))] 1 34 [.any, .any]) (fun k => k ≤ n) (fun k => n - k) ?_ ?_
 ·refine ⟨0, by omega, ?_⟩
  refine wk_list [(0, some 3000000)] rfl ?_ ?_ ?_ ?_
  all_goals try simp [rep_tab]
 ·intro k hk
  refine rgS fun K hK => ?_
  simp (disch := omega)
  and_intros <;> try first | apply hK | omega | rfl | simp <;> omega
  refine awp_seq ?_
  by_cases hkn : k < n
  ·obtain ⟨m1, m2⟩ := mul_small (a := p k) (b := q k) (Nat.le_trans (hp k hkn) hn) (Nat.le_trans (hq k hkn) hn) hn
   have hpk := hp k hkn
   have hqk := hq k hkn
   have g1 := natL_get (r := p) hkn
   have g2 := natL_get (r := q) hkn
   refine condT (by simp [hkn] <;> omega) ?_
   refine awp_skip ?_
   show awp _ _ _ _
   refine awp_seq ?_
   refine awp_block ?_
   refine rgS fun K hK => ?_
   simp (disch := omega)
   and_intros <;> try first | apply hK | omega | rfl | simp <;> omega
   refine awp_RD (by kernel_rfl) (fun K hK => ?_)
   simp (disch := omega) [hkn, natL, tab_map]
   and_intros <;> try first | apply hK | (show chkD _ _ = true; kernel_rfl) | omega | rfl | simp <;> omega
   show awp _ _ _ _
   refine rgL fun K hK => ?_
   simp (disch := omega)
   (repeat' first | apply hK | apply And.intro) <;> try first | omega | rfl | (simp <;> omega)
   refine ⟨k + 1, by omega, by omega, ?_⟩
   refine wk_list [(0, some 0)] rfl ?_ ?_ ?_ ?_
   all_goals try simp [tab_set, natL, tab_map]
   refine tab_congr (fun i hi => ?_)
   by_cases e : i = k
   ·simp [e]
   ·simp [e, show i < k + 1 ↔ i < k by omega]
  ·have hke : k = n := by omega
   refine condF (by simp [hkn] <;> omega) ?_
   refine awp_exit ?_
   show awp _ _ _ _
   subst hke
   have he : (tab k fun i => T.int IntKind.i64 (if i < k then (p i : Int) * ((k : Int) + 1) + q i else 0)) = tab k fun i => T.int IntKind.i64 ((p i : Int) * ((k : Int) + 1) + q i) := tab_congr (fun i hi => by rw [if_pos hi])
   refine rgS fun K hK => ?_
   simp (disch := omega)
   (repeat' apply And.intro)
   all_goals (try omega)
   refine callO (hnum) rfl rfl rfl rfl (by kernel_rfl) (by simp) ?_ ?_
   ·simp [tab_map, he]
   simp (disch := omega)
   and_intros <;> try first | apply hK | omega | rfl | simp <;> omega
   refine awp_ret ?_
   refine ⟨_, ⟨r, hr1, fun i j hi hj => ?_, rfl⟩, ?_⟩
   ·rw [hr2 i j _ _ (tab_get _ hi) (tab_get _ hj)]
    constructor
    ·intro h
     exact pair_inj (hq i hi) (hq j hj) h
    ·rintro ⟨h1, h2⟩
     rw [h1, h2]
   ·refine ⟨⟨.inr rfl, _, [], rfl, trivial, trivial, by simp, ?_⟩, by simp⟩
    simp
structure ClG (L n : Nat) (bs : List Bool) (nxt : List (List Int)) (r : Nat → Nat) : Prop where
 ok : POK r n
 st : ∀ i j, i < n → j < n → r i = r j → bs[i]? = bs[j]? ∧ ∀ x, x < L → r (stepR nxt i x) = r (stepR nxt j x)
theorem classes_fn {L n s : Nat} {bs : List Bool} {nxt : List (List Int)} (h : DfL L n s bs nxt) (hL : 1 ≤ L) (hL2 : L ≤ 6) (hn : n ≤ 512) : ∃ res, (∃ r, ClG L n bs nxt r ∧ res = .t 2 (ints (natL n r))) ∧ FnS Tryz.prog 94 [dfT 0 L s bs nxt] [] res [] := by
 have hnl := h.nl
 have hbl := h.bl
 have hrt := h.rt
 obtain ⟨f, hf⟩ : ∃ f : Nat → Int, f = fun i => if bs[i]? = some true then 1 else 0 := ⟨_, rfl⟩
 obtain ⟨res0, ⟨r0, hr1, hr2, rfl⟩, hnum⟩ := number_fn (tab n f) (by simp; omega)
 simp only [tab_len] at hr1 hr2
 have hr3 : ∀ i j, i < n → j < n → r0 i = r0 j → bs[i]? = bs[j]? := fun i j hi hj e => by
  have := (hr2 i j _ _ (tab_get _ hi) (tab_get _ hj)).1 e
  rw [hf] at this
  have hi2 : i < bs.length := by omega
  have hj2 : j < bs.length := by omega
  simp only [List.getElem?_eq_getElem hi2, List.getElem?_eq_getElem hj2, Option.some.injEq] at this ⊢
  cases h1 : bs[i] <;> cases h2 : bs[j] <;> simp [h1, h2] at this ⊢
 refine fn_introE Tryz.func94 rfl (by simp [Tryz.f94]) ?_
 rw [show Tryz.f94.ntmps = 64 from rfl, show Tryz.f94.results = #[.tmp 2] from rfl]
 refine rgS fun K hK => ?_
 simp (disch := omega) [dfT, bools]
 and_intros <;> try first | apply hK | omega | rfl | simp <;> omega
 refine rgS fun K hK => ?_
 simp (disch := omega) [hbl]
 and_intros <;> try first | apply hK | omega | rfl | simp <;> omega
 refine awp_seq ?_
 refine rgS fun K hK => ?_
 simp (disch := omega)
 and_intros <;> try first | apply hK | omega | rfl | simp <;> omega
 refine awp_block ?_
 refine awp_loop (fun k : Nat => mkS [(1, .ptr 0 0 4), (3, .own 1 n), (14, .t 2 (.int .i64 n)), (15, .t 2 (.int .i64 k))] [(0, .box 67 [.t 2 (.int .i64 L), .t 2 (.int .i64 s), .t 0 (bools bs), .t 0 (rows nxt)]), (1, .row 3 1 2 (tab n fun i => .int .i64 (if i < k then f i else 0)))] 2 64 [.any]) (fun k => k ≤ n) (fun k => n - k) ?_ ?_
 ·refine ⟨0, by omega, ?_⟩
  refine wk_list [(0, some 0), (1, some 5000000)] rfl ?_ ?_ ?_ ?_
  all_goals try simp [rep_tab, bools, dfT]
 ·intro k hk
  refine rgS fun K hK => ?_
  simp (disch := omega)
  and_intros <;> try first | apply hK | omega | rfl | simp <;> omega
  refine awp_seq ?_
  by_cases hkn : k < n
  ·have hkb : k < bs.length := by omega
   refine condT (by simp [hkn] <;> omega) ?_
   refine awp_skip ?_
   show awp _ _ _ _
   refine awp_seq ?_
   refine awp_block ?_
   refine rgS fun K hK => ?_
   simp (disch := omega)
   (repeat' first | apply hK | apply And.intro) <;> try first | omega | rfl | (simp <;> omega)
   cases hb : bs[k] with
   | true =>
    have hfk : f k = 1 := by rw [hf]; simp [hkb, hb]
    refine rgS fun K hK => ?_
    simp (disch := omega) [bools, hkb, hb]
    and_intros <;> try first | apply hK | omega | rfl | simp <;> omega
    refine condT (by simp <;> omega) ?_
    refine rgL fun K hK => ?_
    simp (disch := omega) [hkn]
    and_intros <;> try first | apply hK | omega | rfl | simp <;> omega
    show awp _ _ _ _
    refine rgL fun K hK => ?_
    simp (disch := omega)
    (repeat' first | apply hK | apply And.intro) <;> try first | omega | rfl | (simp <;> omega)
    refine ⟨k + 1, by omega, by omega, ?_⟩
    refine wk_list [(0, some 0), (1, some 1)] rfl ?_ ?_ ?_ ?_
    all_goals try simp [tab_set, bools]
    refine tab_congr (fun i hi => ?_)
    by_cases e : i = k
    ·subst e; simp [hfk]
    ·simp [e, show i < k + 1 ↔ i < k by omega]
   | false =>
    have hfk : f k = 0 := by rw [hf]; simp [hkb, hb]
    refine rgS fun K hK => ?_
    simp (disch := omega) [bools, hkb, hb]
    and_intros <;> try first | apply hK | omega | rfl | simp <;> omega
    refine condF (by simp <;> omega) ?_
    refine awp_skip ?_
    show awp _ _ _ _
    refine rgL fun K hK => ?_
    simp (disch := omega)
    (repeat' first | apply hK | apply And.intro) <;> try first | omega | rfl | (simp <;> omega)
    refine ⟨k + 1, by omega, by omega, ?_⟩
    refine wk_list [(0, some 0), (1, some 1)] rfl ?_ ?_ ?_ ?_
    all_goals try simp [bools]
    refine tab_congr (fun i hi => ?_)
    by_cases e : i = k
    ·subst e; simp [hfk]
    ·simp [show i < k + 1 ↔ i < k by omega]
  ·have hke : k = n := by omega
   refine condF (by simp [hkn] <;> omega) ?_
   refine awp_exit ?_
   show awp _ _ _ _
   subst hke
   have he : (tab k fun i => T.int IntKind.i64 (if i < k then f i else 0)) = tab k fun i => T.int IntKind.i64 (f i) := tab_congr (fun i hi => by rw [if_pos hi])
   refine rgS fun K hK => ?_
   simp (disch := omega)
   (repeat' apply And.intro)
   all_goals (try omega)
   refine callO (hnum) rfl rfl rfl rfl (by kernel_rfl) (by simp) ?_ ?_
   ·simp [tab_map, he]
   simp (disch := omega)
   and_intros <;> try first | apply hK | omega | rfl | simp <;> omega
   refine awp_block ?_
   refine awp_loop (fun p : Nat → Nat => mkS [(1, .ptr 0 0 4), (3, .t 2 (ints (natL k p)))] [(0, .box 67 [.t 2 (.int .i64 L), .t 2 (.int .i64 s), .t 0 (bools bs), .t 0 (rows nxt)])] 1 64 [.any]) (fun p => POK p k ∧ ∀ i j, i < k → j < k → p i = p j → bs[i]? = bs[j]?) (fun p => k - cv p k) ?_ ?_
   ·refine ⟨r0, ⟨hr1, hr3⟩, ?_⟩
    refine wk_list [(0, some 0)] rfl ?_ ?_ ?_ ?_
    all_goals try simp [bools]
   ·rintro p ⟨hp, hpf⟩
    have hpk : ∀ i, i < k → p i ≤ k := fun i hi => Nat.le_trans (hp i hi) (Nat.le_trans (cv_le p i) (by omega))
    refine awp_block ?_
    refine rgS fun K hK => ?_
    simp (disch := omega)
    and_intros <;> try first | apply hK | omega | rfl | simp <;> omega
    refine awp_seq ?_
    refine rgS fun K hK => ?_
    simp (disch := omega)
    and_intros <;> try first | apply hK | omega | rfl | simp <;> omega
    refine awp_block ?_
    refine awp_loop (fun y : Nat × (Nat → Nat) => mkS [(1, .ptr 0 0 4), (3, .t 2 (ints (natL k p))), (5, .t 2 (ints (natL k y.2))), (6, .t 2 (.int .i64 y.1))] [(0, .box 67 [.t 2 (.int .i64 L), .t 2 (.int .i64 s), .t 0 (bools bs), .t 0 (rows nxt)])] 1 64 [.any]) (fun y => y.1 ≤ L ∧ POK y.2 k ∧ ∀ i j, i < k → j < k → y.2 i = y.2 j → p i = p j ∧ ∀ x, x < y.1 → p (stepR nxt i x) = p (stepR nxt j x)) (fun y => L - y.1) ?_ ?_
    ·refine ⟨(0, p), ⟨by simp, hp, fun i j _ _ e => ⟨e, fun x hx => by simp at hx⟩⟩, ?_⟩
     refine wk_list [(0, some 0)] rfl ?_ ?_ ?_ ?_
     all_goals try simp [bools]
    ·rintro ⟨x, nx⟩ ⟨hx, hnx, hfine⟩
     simp only at hx hnx hfine
     refine awp_seq ?_
     refine rgS fun K hK => ?_
     simp (disch := omega)
     (repeat' first | apply hK | apply And.intro) <;> try first | omega | rfl | (simp <;> omega)
     by_cases hxl : x < L
     ·obtain ⟨res1, ⟨r1, ha1, ha2, rfl⟩, hboth⟩ := both_fn k nx (fun q => p (stepR nxt q x)) hn (fun i hi => Nat.le_trans (hnx i hi) (Nat.le_trans (cv_le nx i) (by omega))) (fun i hi => hpk _ (hrt.step hi hxl).1)
      refine condT (by simp [hxl] <;> omega) ?_
      refine awp_skip ?_
      show awp _ _ _ _
      refine awp_seq ?_
      refine awp_block ?_
      refine rgS fun K hK => ?_
      simp (disch := omega)
      and_intros <;> try first | apply hK | omega | rfl | simp <;> omega
      refine awp_seq ?_
      refine rgS fun K hK => ?_
      simp (disch := omega)
      and_intros <;> try first | apply hK | omega | rfl | simp <;> omega
      refine awp_block ?_
      refine awp_loop (fun q : Nat => mkS [(1, .ptr 0 0 4), (3, .t 2 (ints (natL k p))), (5, .t 2 (ints (natL k nx))), (6, .t 2 (.int .i64 x)), (7, .own 1 q), (37, .t 2 (.int .i64 k)), (38, .t 2 (.int .i64 q))] [(0, .box 67 [.t 2 (.int .i64 L), .t 2 (.int .i64 s), .t 0 (bools bs), .t 0 (rows nxt)]), (1, .row 3 1 2 (tab q fun j => .int .i64 (p (stepR nxt j x))))] 2 64 [.any]) (fun q => q ≤ k) (fun q => k - q) ?_ ?_
      ·refine ⟨0, by omega, ?_⟩
       refine wk_list [(0, some 0), (1, none)] rfl ?_ ?_ ?_ ?_
       all_goals try simp [bools]
      ·intro q hq
       refine rgS fun K hK => ?_
       simp (disch := omega)
       and_intros <;> try first | apply hK | omega | rfl | simp <;> omega
       refine awp_seq ?_
       by_cases hqk : q < k
       ·obtain ⟨s1, s2, s3, s4⟩ := hrt.step hqk hxl
        refine condT (by simp [hqk] <;> omega) ?_
        refine awp_skip ?_
        show awp _ _ _ _
        refine awp_seq ?_
        refine awp_block ?_
        refine rgS fun K hK => ?_
        simp (disch := omega)
        and_intros <;> try first | apply hK | omega | rfl | simp <;> omega
        refine rgL fun K hK => ?_
        simp (disch := omega) [s2, s3, s4, natL, tab_map, s1]
        and_intros <;> try first | apply hK | omega | rfl | simp <;> omega
        show awp _ _ _ _
        refine rgL fun K hK => ?_
        simp (disch := omega)
        (repeat' first | apply hK | apply And.intro) <;> try first | omega | rfl | (simp <;> omega)
        refine ⟨q + 1, by omega, by omega, ?_⟩
        refine wk_list [(0, some 0), (1, some 1)] rfl ?_ ?_ ?_ ?_
        all_goals try simp [bools, tab_succ, natL, tab_map]
       ·have hqe : q = k := by omega
        refine condF (by simp [hqk] <;> omega) ?_
        refine awp_exit ?_
        show awp _ _ _ _
        subst hqe
        refine rgL fun K hK => ?_
        simp (disch := omega)
        (repeat' apply And.intro)
        all_goals (try omega)
        refine callO (hboth) rfl rfl rfl rfl (by kernel_rfl) (by simp) ?_ ?_
        ·simp [natL, tab_map]
        simp (disch := omega)
        and_intros <;> try first | apply hK | omega | rfl | simp <;> omega
        show awp _ _ _ _
        refine rgL fun K hK => ?_
        simp (disch := omega)
        (repeat' first | apply hK | apply And.intro) <;> try first | omega | rfl | (simp <;> omega)
        refine ⟨(x + 1, r1), ⟨by omega, ha1, fun i j hi hj e => ?_⟩, by simp; omega, ?_⟩
        ·obtain ⟨e1, e2⟩ := (ha2 i j hi hj).1 e
         obtain ⟨e3, e4⟩ := hfine i j hi hj e1
         refine ⟨e3, fun y hy => ?_⟩
         by_cases eq : y = x
         ·subst eq; exact e2
         ·exact e4 y (by simp at hy; omega)
        ·refine wk_list [(0, some 0)] rfl ?_ ?_ ?_ ?_
         all_goals try simp [bools]
     ·have hxe : x = L := by omega
      subst hxe
      refine condF (by simp <;> omega) ?_
      refine awp_exit ?_
      show awp _ _ _ _
      refine awp_seq ?_
      refine rgS fun K hK => ?_
      simp (disch := omega)
      (repeat' apply And.intro)
      all_goals (try omega)
      refine callO (same_fn (natL k nx) (natL k p) (by simp; omega)) rfl rfl rfl rfl (by kernel_rfl) (by simp) ?_ ?_
      ·simp
      simp (disch := omega)
      (repeat' first | apply hK | apply And.intro) <;> try first | omega | rfl | (simp <;> omega)
      by_cases hs : natL k nx = natL k p
      ·have hsi : ∀ i, i < k → nx i = p i := fun i hi => by
        have h1 := natL_get (r := nx) hi
        rw [hs, natL_get hi] at h1
        simp at h1
        omega
       refine condT (by simp [hs] <;> omega) ?_
       refine rgS fun K hK => ?_
       simp (disch := omega)
       and_intros <;> try first | apply hK | omega | rfl | simp <;> omega
       refine awp_ret ?_
       refine ⟨_, ⟨p, ⟨hp, fun i j hi hj e => ?_⟩, rfl⟩, ?_⟩
       ·obtain ⟨e1, e2⟩ := hfine i j hi hj (by rw [hsi i hi, hsi j hj, e])
        exact ⟨hpf i j hi hj e, e2⟩
       ·refine ⟨⟨.inr rfl, _, [], rfl, trivial, trivial, by simp [dfT], ?_⟩, by simp [dfT]⟩
        simp [dfT]
      ·refine condF (by simp [hs] <;> omega) ?_
       refine awp_skip ?_
       show awp _ _ _ _
       refine rgL fun K hK => ?_
       simp (disch := omega)
       (repeat' first | apply hK | apply And.intro) <;> try first | omega | rfl | (simp <;> omega)
       have hg : cv p k < cv nx k := by
        rcases pk_grow hp hnx (fun i j hi hj e => (hfine i j hi hj e).1) with g | g
        ·exfalso
         apply hs
         exact tab_congr (fun i hi => by rw [g i hi])
        ·exact g
       have hcl := cv_le nx k
       refine ⟨nx, ⟨hnx, fun i j hi hj e => hpf i j hi hj (hfine i j hi hj e).1⟩, by omega, ?_⟩
       refine wk_list [(0, some 0)] rfl ?_ ?_ ?_ ?_
       all_goals try simp [bools]
end Go.Proofs.YtghnmmfkckneaaaGreat.M
