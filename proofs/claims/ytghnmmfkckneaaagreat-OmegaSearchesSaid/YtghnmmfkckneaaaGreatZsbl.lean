/-
  Walk in my logic: may of the reference of layer 28, where the search is valid and over all elements.
  Walk in my logic: Ranges of the reference of layer 28, where the search is valid and over all elements.
-/
import Derived.Test.YtghnmmfkckneaaaGreatZsaz
import Derived.Test.YtghnmmfkckneaaaGreatZsba
import Derived.Test.YtghnmmfkckneaaaGreatZsbk
namespace Go.Proofs.YtghnmmfkckneaaaGreat.M
open Go.RowKit
set_option linter.unusedVariables false
set_option maxRecDepth 100000
set_option maxHeartbeats 32000000
attribute [local simp] ints rows scal wr64 wr8
set_option linter.unusedSimpArgs false

@[simp] theorem allL_len (n : Nat) : (allL n).length = n := by simp [allL]
theorem allL_get {n k : Nat} (h : k < n) : ∀ h', (allL n)[k]'h' = (k : Int) := fun h' => by simp [allL, tab]
theorem allL_some {n k : Nat} (h : k < n) : (allL n)[k]? = some (k : Int) := tab_get _ h
theorem allL_in (n : Nat) : inB n (allL n) = true := inB_t fun i h => by
 have h' : i < n := by simpa using h
 rw [allL_get h']; omega
def mpO (o : Nat) : Nat → List (T × T)
 | 0 => []
 | k + 1 => (.int .i64 (o : Nat), .bool true) :: mpO (o + 1) k
@[simp] theorem mpO_len : ∀ k o, (mpO o k).length = k
 | 0, o => rfl
 | k + 1, o => by show (mpO (o + 1) k).length + 1 = _; rw [mpO_len k]
theorem mpO_mem {a b : T} : ∀ {k o : Nat}, (a, b) ∈ mpO o k → ∃ y : Nat, a = .int .i64 (y : Nat) ∧ b = .bool true
 | 0, o, h => by cases h
 | k + 1, o, h => by
  rcases List.mem_cons.1 h with e | h
  ·injection e with e1 e2
   exact ⟨o, e1, e2⟩
  ·exact mpO_mem h
@[simp] theorem mpO_all (k o : Nat) : ((mpO o k).all fun e => kOK Tryz.prog 3 e.1) = true := by
 rw [List.all_eq_true]
 rintro ⟨a, b⟩ he
 obtain ⟨y, rfl, -⟩ := mpO_mem he
 simp [kOK]
theorem mpO_no : ∀ {k o y : Nat}, y < o ∨ o + k ≤ y → fndT (.int .i64 (y : Int)) (mpO o k) = none
 | 0, o, y, _ => rfl
 | k + 1, o, y, h => by
  have h1 : ¬ (y : Int) = (o : Int) := fun e => by omega
  have h2 := mpO_no (k := k) (o := o + 1) (y := y) (by omega)
  show (if kEq (.int .i64 (y : Int)) (.int .i64 (o : Int)) then some 0 else (fndT (.int .i64 (y : Int)) (mpO (o + 1) k)).map (· + 1)) = none
  rw [h2]
  simp [kEq, h1]
theorem mpO_at : ∀ {k o y : Nat}, y < k → fndT (.int .i64 ((o + y : Nat) : Int)) (mpO o k) = some y ∧ (mpO o k)[y]? = some (.int .i64 ((o + y : Nat) : Int), .bool true)
 | k + 1, o, 0, h => by
  refine ⟨?_, rfl⟩
  show (if kEq (.int .i64 (o : Int)) (.int .i64 (o : Int)) then some 0 else _) = some 0
  simp [kEq]
 | k + 1, o, y + 1, h => by
  obtain ⟨h1, h2⟩ := mpO_at (k := k) (o := o + 1) (y := y) (by omega)
  have h3 : ¬ ((o + (y + 1) : Nat) : Int) = (o : Int) := fun e => by omega
  rw [show o + 1 + y = o + (y + 1) from by omega] at h1 h2
  refine ⟨?_, h2⟩
  show (if kEq (.int .i64 ((o + (y + 1) : Nat) : Int)) (.int .i64 (o : Int)) then some 0 else (fndT (.int .i64 ((o + (y + 1) : Nat) : Int)) (mpO (o + 1) k)).map (· + 1)) = some (y + 1)
  rw [h1]
  simp only [kEq, beq_eq_false_iff_ne.2 h3, Option.map_some]
  rfl
theorem mpO_app : ∀ (k o : Nat), mpO o k ++ [(T.int .i64 ((o + k : Nat) : Int), T.bool true)] = mpO o (k + 1)
 | 0, o => rfl
 | k + 1, o => by
  have h := mpO_app k (o + 1)
  rw [show o + 1 + k = o + (k + 1) from by omega] at h
  show (T.int .i64 (o : Nat), T.bool true) :: (mpO (o + 1) k ++ [(T.int .i64 ((o + (k + 1) : Nat) : Int), T.bool true)]) = _
  rw [h]
  rfl
theorem may_fn (tb : List (List Int)) (n : Nat) (ht : TbL tb n (tabOf tb)) (v1 : vErr tb = 0) (hn : n ≤ 1000) (a b : Tm) (hv : a.val = true ∧ b.val = true) (hi0 : idI (tabOf tb) n = 0) :
  FnA Tryz.prog 39 [.t 0 (rows tb), .t 0 (ints (allL n)), idV 0 a b] (.t 2 (.int .i64 0)) := by
 have hV := valRef_fn tb
 rw [v1] at hV
 have hIn := rIn_fn tb (allL n) (by simp; omega) (by rw [ht.len]; omega)
 rw [ht.len, allL_in] at hIn
 have hM := rMay_fn a b
 rw [hv.1, hv.2, Bool.and_self] at hM
 have hNa := needs_fn a (by have := (val_ok hv.1).2; omega)
 have hNb := needs_fn b (by have := (val_ok hv.2).2; omega)
 have hId := rIdentity_fn tb n (tabOf tb) ht hn
 rw [hi0] at hId
 have hl := ht.len
 refine fn_intro Tryz.func39 rfl (by simp [Tryz.f39]) ?_
 rw [show Tryz.f39.ntmps = 86 from rfl, show Tryz.f39.results = #[.tmp 6] from rfl]
 refine rgS fun K hK => ?_
 simp (disch := omega) [idV]
 and_intros <;> try first | apply hK | omega | rfl | simp <;> omega
 refine awp_weak (σ' := mkS [(0, .t 0 (rows tb)), (1, .t 0 (ints (allL n))), (5, .ptr 0 0 6)] [(0, ibO a b)] 1 86 [.any, .any, .any]) ?_ ?_
 ·refine wk_list [(0, some 0)] rfl ?_ ?_ ?_ ?_
  all_goals try simp [idV, ibO]
 refine awp_seq ?_
 refine rgS fun K hK => ?_
 simp (disch := omega)
 (repeat' apply And.intro)
 all_goals (try omega)
 refine callO (hV) rfl rfl rfl rfl (by kernel_rfl) (by simp) ?_ ?_
 ·simp
 simp (disch := omega)
 and_intros <;> try first | apply hK | omega | rfl | simp <;> omega
 refine rgS fun K hK => ?_
 simp (disch := omega)
 and_intros <;> try first | apply hK | omega | rfl | simp <;> omega
 refine condF (by simp <;> omega) ?_
 refine awp_skip ?_
 show awp _ _ _ _
 refine awp_seq ?_
 refine rgS fun K hK => ?_
 simp (disch := omega)
 (repeat' apply And.intro)
 all_goals (try omega)
 refine callO (hIn) rfl rfl rfl rfl (by kernel_rfl) (by simp) ?_ ?_
 ·simp
 simp (disch := omega)
 and_intros <;> try first | apply hK | omega | rfl | simp <;> omega
 refine condF (by simp <;> omega) ?_
 refine awp_skip ?_
 show awp _ _ _ _
 refine rgS fun K hK => ?_
 simp (disch := omega)
 and_intros <;> try first | apply hK | omega | rfl | simp <;> omega
 refine awp_seq ?_
 refine rgS fun K hK => ?_
 simp (disch := omega)
 and_intros <;> try first | apply hK | omega | rfl | simp <;> omega
 refine awp_block ?_
 refine awp_loop (fun k : Nat => mkS [(0, .t 0 (rows tb)), (1, .t 0 (ints (allL n))), (5, .ptr 0 0 6), (8, .own 1 0), (25, .t 0 (ints (allL n))), (26, .t 2 (.int .i64 n)), (27, .t 2 (.int .i64 k))] [(0, ibO a b), (1, .map 3 4 (mpO 0 k))] 2 86 [.any, .any, .any]) (fun k => k ≤ n) (fun k => n - k) ?_ ?_
 ·refine ⟨0, by omega, ?_⟩
  refine wk_list [(0, some 0), (1, some 9000001)] rfl ?_ ?_ ?_ ?_
  all_goals try simp [ibO, mpO]
 intro k hk
 refine rgS fun K hK => ?_
 simp (disch := omega)
 and_intros <;> try first | apply hK | omega | rfl | simp <;> omega
 refine awp_seq ?_
 by_cases hkn : k < n
 ·have hg := allL_some hkn
  refine condT (by simp [hkn] <;> omega) ?_
  refine awp_skip ?_
  show awp _ _ _ _
  refine awp_seq ?_
  refine awp_block ?_
  refine rgS fun K hK => ?_
  simp (disch := omega) [hkn, hg]
  and_intros <;> try first | apply hK | omega | rfl | simp <;> omega
  refine awp_seq ?_
  have hno := mpO_no (k := k) (o := 0) (y := k) (by omega)
  have happ := mpO_app k 0
  rw [Nat.zero_add] at happ
  rcases k with _ | j
  ·refine rgS fun K hK => ?_
   simp (disch := omega) [hg]
   and_intros <;> try first | apply hK | omega | rfl | simp <;> omega
   refine condF (by simp <;> omega) ?_
   refine awp_skip ?_
   show awp _ _ _ _
   refine rgL fun K hK => ?_
   simp (disch := omega) [hno, kOK]
   and_intros <;> try first | apply hK | omega | rfl | simp <;> omega
   show awp _ _ _ _
   refine rgL fun K hK => ?_
   simp (disch := omega)
   (repeat' first | apply hK | apply And.intro) <;> try first | omega | rfl | (simp <;> omega)
   refine ⟨1, by omega, by omega, ?_⟩
   refine wk_list [(0, some 0), (1, some 1)] rfl ?_ ?_ ?_ ?_
   all_goals try simp [ibO, mpO]
   all_goals rfl
  ·have hj : j < n := by omega
   have hg2 := allL_some hj
   have hno' : fndT (.int .i64 ((j : Int) + 1)) (mpO 0 (j + 1)) = none := hno
   refine rgS fun K hK => ?_
   simp (disch := omega) [hg, hg2, hj]
   and_intros <;> try first | apply hK | omega | rfl | simp <;> omega
   refine condF (by simp <;> omega) ?_
   refine awp_skip ?_
   show awp _ _ _ _
   refine rgL fun K hK => ?_
   simp (disch := omega) [hno', kOK]
   (repeat' first | apply hK | apply And.intro) <;> try first | omega | rfl | (simp <;> omega)
   all_goals (try (intro a b h; obtain ⟨y, rfl, -⟩ := mpO_mem h; rfl))
   show awp _ _ _ _
   refine rgL fun K hK => ?_
   simp (disch := omega)
   (repeat' first | apply hK | apply And.intro) <;> try first | omega | rfl | (simp <;> omega)
   refine ⟨j + 1 + 1, by omega, by omega, ?_⟩
   refine wk_list [(0, some 0), (1, some 1)] rfl ?_ ?_ ?_ ?_
   all_goals try simp [ibO]
   exact happ
 obtain rfl : k = n := by omega
 refine condF (by simp <;> omega) ?_
 refine awp_exit ?_
 show awp _ _ _ _
 refine awp_seq ?_
 refine rgS fun K hK => ?_
 simp (disch := omega)
 and_intros <;> try first | apply hK | omega | rfl | simp <;> omega
 refine awp_block ?_
 refine awp_loop (fun x : Nat => mkS [(0, .t 0 (rows tb)), (1, .t 0 (ints (allL k))), (5, .ptr 0 0 6), (8, .own 1 0), (46, .t 0 (ints (allL k))), (47, .t 2 (.int .i64 k)), (48, .t 2 (.int .i64 x))] [(0, ibO a b), (1, .map 3 4 (mpO 0 k))] 2 86 [.any, .any, .any]) (fun x => x ≤ k) (fun x => k - x) ?_ ?_
 ·refine ⟨0, by omega, ?_⟩
  refine wk_list [(0, some 0), (1, some 1)] rfl ?_ ?_ ?_ ?_
  all_goals try simp [ibO]
 intro x hx
 refine rgS fun K hK => ?_
 simp (disch := omega)
 and_intros <;> try first | apply hK | omega | rfl | simp <;> omega
 refine awp_seq ?_
 by_cases hxk : x < k
 case pos =>
  have hgx := allL_some hxk
  refine condT (by simp [hxk] <;> omega) ?_
  refine awp_skip ?_
  show awp _ _ _ _
  refine awp_seq ?_
  refine awp_block ?_
  refine rgS fun K hK => ?_
  simp (disch := omega) [hxk, hgx]
  and_intros <;> try first | apply hK | omega | rfl | simp <;> omega
  refine rgS fun K hK => ?_
  simp (disch := omega)
  and_intros <;> try first | apply hK | omega | rfl | simp <;> omega
  refine awp_block ?_
  refine awp_loop (fun y : Nat => mkS [(0, .t 0 (rows tb)), (1, .t 0 (ints (allL k))), (5, .ptr 0 0 6), (8, .own 1 0), (12, .t 2 (.int .i64 x)), (46, .t 0 (ints (allL k))), (47, .t 2 (.int .i64 k)), (48, .t 2 (.int .i64 x)), (52, .t 0 (ints (allL k))), (53, .t 2 (.int .i64 k)), (54, .t 2 (.int .i64 y))] [(0, ibO a b), (1, .map 3 4 (mpO 0 k))] 2 86 [.any, .any, .any]) (fun y => y ≤ k) (fun y => k - y) ?_ ?_
  ·refine ⟨0, by omega, ?_⟩
   refine wk_list [(0, some 0), (1, some 1)] rfl ?_ ?_ ?_ ?_
   all_goals try simp [ibO, hgx]
  intro y hy
  refine rgS fun K hK => ?_
  simp (disch := omega)
  and_intros <;> try first | apply hK | omega | rfl | simp <;> omega
  refine awp_seq ?_
  by_cases hyk : y < k
  case pos =>
   have hgy := allL_some hyk
   obtain ⟨g1, g2, g3⟩ := ht.get hxk hyk
   obtain ⟨f1, f2⟩ := mpO_at (o := 0) (ht.lt x y hxk hyk)
   rw [Nat.zero_add] at f1 f2
   refine condT (by simp [hyk] <;> omega) ?_
   refine awp_skip ?_
   show awp _ _ _ _
   refine awp_seq ?_
   refine awp_block ?_
   refine rgS fun K hK => ?_
   simp (disch := omega) [hyk, hgy]
   and_intros <;> try first | apply hK | omega | rfl | simp <;> omega
   refine rgS fun K hK => ?_
   simp (disch := omega) [g1, g2, g3, f1, f2, kOK]
   (repeat' first | refine hK _ ?_ | apply And.intro) <;> clear hK K
   ·intro a b h
    obtain ⟨y, rfl, -⟩ := mpO_mem h
    rfl
   refine condF (by simp <;> omega) ?_
   refine awp_skip ?_
   show awp _ _ _ _
   refine rgL fun K hK => ?_
   simp (disch := omega)
   (repeat' first | apply hK | apply And.intro) <;> try first | omega | rfl | (simp <;> omega)
   refine ⟨y + 1, by omega, by omega, ?_⟩
   refine wk_list [(0, some 0), (1, some 1)] rfl ?_ ?_ ?_ ?_
   all_goals try simp [ibO]
  obtain rfl : y = k := by omega
  refine condF (by simp <;> omega) ?_
  refine awp_exit ?_
  show awp _ _ _ _
  refine rgL fun K hK => ?_
  simp (disch := omega)
  (repeat' first | apply hK | apply And.intro) <;> try first | omega | rfl | (simp <;> omega)
  refine ⟨x + 1, by omega, by omega, ?_⟩
  refine wk_list [(0, some 0), (1, some 1)] rfl ?_ ?_ ?_ ?_
  all_goals try simp [ibO]
 obtain rfl : x = k := by omega
 refine condF (by simp <;> omega) ?_
 refine awp_exit ?_
 show awp _ _ _ _
 refine awp_seq ?_
 refine rgS fun K hK => ?_
 simp (disch := omega) [ibO, tsIdent]
 (repeat' apply And.intro)
 all_goals (try omega)
 refine callO (hM) rfl rfl rfl rfl (by kernel_rfl) (by simp) ?_ ?_
 ·simp [idV]
 simp (disch := omega)
 and_intros <;> try first | apply hK | omega | rfl | simp <;> omega
 refine condF (by simp <;> omega) ?_
 refine awp_skip ?_
 show awp _ _ _ _
 refine awp_seq ?_
 cases ha : a.has1 with
 | true =>
  rw [ha] at hNa
  refine rgS fun K hK => ?_
  simp (disch := omega) [ibO, tsTerm]
  (repeat' apply And.intro)
  all_goals (try omega)
  refine callO (hNa) rfl rfl rfl rfl (by kernel_rfl) (by simp) ?_ ?_
  ·simp [tmV]
  simp (disch := omega)
  (repeat' apply And.intro)
  all_goals (try omega)
  refine callO (hId) (by simp) rfl rfl rfl (by kernel_rfl) (by simp) ?_ ?_
  ·simp
  simp (disch := omega)
  and_intros <;> try first | apply hK | omega | rfl | simp <;> omega
  refine condF (by simp <;> omega) ?_
  refine awp_skip ?_
  show awp _ _ _ _
  refine rgS fun K hK => ?_
  simp (disch := omega)
  and_intros <;> try first | apply hK | omega | rfl | simp <;> omega
  refine awp_ret ?_
  refine ⟨⟨.inr rfl, _, [], rfl, trivial, trivial, by simp [idV], ?_⟩, by simp [idV]⟩
  simp [idV]
 | false =>
  rw [ha] at hNa
  cases hb : b.has1 with
  | true =>
   rw [hb] at hNb
   refine rgS fun K hK => ?_
   simp (disch := omega) [ibO, tsTerm]
   (repeat' apply And.intro)
   all_goals (try omega)
   refine callO (hNa) rfl rfl rfl rfl (by kernel_rfl) (by simp) ?_ ?_
   ·simp [tmV]
   simp (disch := omega) [tsTerm]
   (repeat' apply And.intro)
   all_goals (try omega)
   refine callO (hNb) (by simp [tmV]) rfl rfl rfl (by kernel_rfl) (by simp) ?_ ?_
   ·simp [tmV]
   simp (disch := omega)
   (repeat' apply And.intro)
   all_goals (try omega)
   refine callO (hId) (by simp) rfl rfl rfl (by kernel_rfl) (by simp) ?_ ?_
   ·simp
   simp (disch := omega)
   and_intros <;> try first | apply hK | omega | rfl | simp <;> omega
   refine condF (by simp <;> omega) ?_
   refine awp_skip ?_
   show awp _ _ _ _
   refine rgS fun K hK => ?_
   simp (disch := omega)
   and_intros <;> try first | apply hK | omega | rfl | simp <;> omega
   refine awp_ret ?_
   refine ⟨⟨.inr rfl, _, [], rfl, trivial, trivial, by simp [idV], ?_⟩, by simp [idV]⟩
   simp [idV]
  | false =>
   rw [hb] at hNb
   refine rgS fun K hK => ?_
   simp (disch := omega) [ibO, tsTerm]
   (repeat' apply And.intro)
   all_goals (try omega)
   refine callO (hNa) rfl rfl rfl rfl (by kernel_rfl) (by simp) ?_ ?_
   ·simp [tmV]
   simp (disch := omega) [tsTerm]
   (repeat' apply And.intro)
   all_goals (try omega)
   refine callO (hNb) (by simp [tmV]) rfl rfl rfl (by kernel_rfl) (by simp) ?_ ?_
   ·simp [tmV]
   simp (disch := omega)
   and_intros <;> try first | apply hK | omega | rfl | simp <;> omega
   refine condF (by simp <;> omega) ?_
   refine awp_skip ?_
   show awp _ _ _ _
   refine rgS fun K hK => ?_
   simp (disch := omega)
   and_intros <;> try first | apply hK | omega | rfl | simp <;> omega
   refine awp_ret ?_
   refine ⟨⟨.inr rfl, _, [], rfl, trivial, trivial, by simp [idV], ?_⟩, by simp [idV]⟩
   simp [idV]

set_option maxRecDepth 100000
set_option maxHeartbeats 32000000
attribute [local simp] ints rows scal wr64 wr8
set_option linter.unusedSimpArgs false

theorem rRanges_fn (tb : List (List Int)) (n : Nat) (ht : TbL tb n (tabOf tb)) (v1 : vErr tb = 0) (hn : n ≤ 1000) (a b : Tm) (hv : a.val = true ∧ b.val = true) (hi0 : idI (tabOf tb) n = 0) :
  FnA Tryz.prog 11 [.t 0 (rows tb), .t 0 (ints (allL n)), idV 0 a b] (.tup [.t 2 (rows (rngL (tabOf tb) (allL n) a b)), .t 2 (.int .i64 0)]) := by
 have hM := may_fn tb n ht v1 hn a b hv hi0
 have hVs := rVars_fn a b
 obtain ⟨hao, has⟩ := val_ok hv.1
 obtain ⟨hbo, hbs⟩ := val_ok hv.2
 have hga := gr_6 a hao
 have hgb := gr_6 b hbo
 obtain ⟨nv, hnv⟩ : ∃ nv, nv = max a.gr b.gr := ⟨_, rfl⟩
 rw [show varsI a b = nv by unfold varsI; rw [if_pos hv, hnv]] at hVs
 have hl := ht.len
 unfold rngL
 rw [← hnv]
 obtain ⟨R, hR⟩ : ∃ R, R = rngF (tabOf tb) (allL n) a b := ⟨_, rfl⟩
 rw [← hR]
 refine fn_intro Tryz.func11 rfl (by simp [Tryz.f11]) ?_
 rw [show Tryz.f11.ntmps = 85 from rfl, show Tryz.f11.results = #[.tmp 6, .tmp 7] from rfl]
 refine rgS fun K hK => ?_
 simp (disch := omega) [idV]
 and_intros <;> try first | apply hK | omega | rfl | simp <;> omega
 refine awp_weak (σ' := mkS [(0, .t 0 (rows tb)), (1, .t 0 (ints (allL n))), (5, .ptr 0 0 6)] [(0, ibO a b)] 1 85 [.any, .any, .any]) ?_ ?_
 ·refine wk_list [(0, some 0)] rfl ?_ ?_ ?_ ?_
  all_goals try simp [idV, ibO]
 refine awp_seq ?_
 refine rgS fun K hK => ?_
 simp (disch := omega) [ibO, tsIdent]
 (repeat' apply And.intro)
 all_goals (try omega)
 refine callO (hM) rfl rfl rfl rfl (by kernel_rfl) (by simp) ?_ ?_
 ·simp [idV]
 simp (disch := omega)
 and_intros <;> try first | apply hK | omega | rfl | simp <;> omega
 refine rgS fun K hK => ?_
 simp (disch := omega)
 and_intros <;> try first | apply hK | omega | rfl | simp <;> omega
 refine condF (by simp <;> omega) ?_
 refine awp_skip ?_
 show awp _ _ _ _
 refine rgS fun K hK => ?_
 simp (disch := omega)
 and_intros <;> try first | apply hK | omega | rfl | simp <;> omega
 refine awp_seq ?_
 refine rgS fun K hK => ?_
 simp (disch := omega)
 and_intros <;> try first | apply hK | omega | rfl | simp <;> omega
 refine awp_block ?_
 refine awp_loop (fun i : Nat => mkS [(0, .t 0 (rows tb)), (1, .t 0 (ints (allL n))), (5, .ptr 0 0 6), (9, .own 1 i), (10, .t 2 (.int .i64 i))] [(0, ibO a b), (1, .row 22 1 2 (tab i fun j => ints (R j)))] 2 85 [.any, .any, .any]) (fun i => i ≤ nv) (fun i => nv - i) ?_ ?_
 ·refine ⟨0, by omega, ?_⟩
  refine wk_list [(0, some 0), (1, none)] rfl ?_ ?_ ?_ ?_
  all_goals try simp [ibO, tab]
 intro i hi
 refine awp_seq ?_
 refine rgS fun K hK => ?_
 simp (disch := omega) [ibO, tsIdent]
 (repeat' apply And.intro)
 all_goals (try omega)
 refine callO (hVs) rfl rfl rfl rfl (by kernel_rfl) (by simp) ?_ ?_
 ·simp [idV]
 simp (disch := omega)
 (repeat' first | apply hK | apply And.intro) <;> try first | omega | rfl | (simp <;> omega)
 by_cases hiv : i < nv
 case neg =>
  obtain rfl : i = nv := by omega
  refine condF (by simp <;> omega) ?_
  refine awp_exit ?_
  show awp _ _ _ _
  refine rgS fun K hK => ?_
  simp (disch := omega)
  and_intros <;> try first | apply hK | omega | rfl | simp <;> omega
  refine awp_ret ?_
  refine ⟨⟨.inr rfl, _, [], rfl, trivial, trivial, by simp [idV, tab_map], ?_⟩, by simp [idV, tab_map]⟩
  simp [idV, tab_map]
  all_goals rfl
 have hLa := loose_fn i (by omega) a hao (by omega)
 have hLb := loose_fn i (by omega) b hbo (by omega)
 obtain ⟨P, hP⟩ : ∃ P : Int → Bool, P = fun x => !(a.occ i || b.occ i) || (a.els i (0, 0) || b.els i (0, 0)) || decide (tabOf tb x.toNat x.toNat = x.toNat) := ⟨_, rfl⟩
 have hRi : R i = (allL n).filter P := by rw [hR]; unfold rngF; rw [hP]
 generalize a.els i (0, 0) = la at hLa hP
 generalize b.els i (0, 0) = lb at hLb hP
 generalize a.occ i = oa at hLa hP
 generalize b.occ i = ob at hLb hP
 refine condT (by simp [hiv] <;> omega) ?_
 refine awp_skip ?_
 show awp _ _ _ _
 refine awp_seq ?_
 refine awp_block ?_
 refine rgS fun K hK => ?_
 simp (disch := omega) [ibO, tsTerm]
 (repeat' apply And.intro)
 all_goals (try omega)
 refine callO (hLa) rfl rfl rfl rfl (by kernel_rfl) (by simp) ?_ ?_
 ·simp [tmV]
 simp (disch := omega)
 and_intros <;> try first | apply hK | omega | rfl | simp <;> omega
 refine rgS fun K hK => ?_
 simp (disch := omega) [ibO, tsTerm]
 (repeat' apply And.intro)
 all_goals (try omega)
 refine callO (hLb) rfl rfl rfl rfl (by kernel_rfl) (by simp) ?_ ?_
 ·simp [tmV]
 simp (disch := omega)
 and_intros <;> try first | apply hK | omega | rfl | simp <;> omega
 refine rgS fun K hK => ?_
 simp (disch := omega)
 and_intros <;> try first | apply hK | omega | rfl | simp <;> omega
 refine awp_seq ?_
 refine rgS fun K hK => ?_
 simp (disch := omega)
 and_intros <;> try first | apply hK | omega | rfl | simp <;> omega
 refine awp_block ?_
 refine awp_loop (fun k : Nat => mkS [(0, .t 0 (rows tb)), (1, .t 0 (ints (allL n))), (5, .ptr 0 0 6), (9, .own 1 i), (10, .t 2 (.int .i64 i)), (11, .t 2 (.bool la)), (12, .t 2 (.bool oa)), (13, .t 2 (.bool lb)), (14, .t 2 (.bool ob)), (15, .own 2 (((allL n).take k).filter P).length), (46, .t 0 (ints (allL n))), (47, .t 2 (.int .i64 n)), (48, .t 2 (.int .i64 k))] [(0, ibO a b), (1, .row 22 1 2 (tab i fun j => ints (R j))), (2, .row 3 1 2 ((((allL n).take k).filter P).map (.int .i64)))] 3 85 [.any, .any, .any]) (fun k => k ≤ n) (fun k => n - k) ?_ ?_
 ·refine ⟨0, by omega, ?_⟩
  refine wk_list [(0, some 0), (1, some 1), (2, some 22000002)] rfl ?_ ?_ ?_ ?_
  all_goals try simp [ibO]
 intro k hk
 have hfl : (((allL n).take k).filter P).length ≤ k := by
  have := List.length_filter_le P ((allL n).take k)
  rw [List.length_take] at this
  omega
 refine rgS fun K hK => ?_
 simp (disch := omega)
 and_intros <;> try first | apply hK | omega | rfl | simp <;> omega
 refine awp_seq ?_
 by_cases hkl : k < n
 case neg =>
  obtain rfl : k = n := by omega
  have e1 : ((allL k).take k) = allL k := List.take_of_length_le (by simp)
  rw [e1, ← hRi]
  refine condF (by simp <;> omega) ?_
  refine awp_exit ?_
  show awp _ _ _ _
  refine awp_weak (σ' := mkS [(0, .t 0 (rows tb)), (1, .t 0 (ints (allL k))), (5, .ptr 0 0 6), (9, .own 1 i), (10, .t 2 (.int .i64 i)), (15, .t 2 (ints (R i)))] [(0, ibO a b), (1, .row 22 1 2 (tab i fun j => ints (R j)))] 2 85 [.any, .any, .any]) ?_ ?_
  ·refine wk_list [(0, some 0), (1, some 1)] rfl ?_ ?_ ?_ ?_
   all_goals try simp [ibO]
  refine rgL fun K hK => ?_
  simp (disch := omega)
  and_intros <;> try first | apply hK | omega | rfl | simp <;> omega
  show awp _ _ _ _
  refine rgL fun K hK => ?_
  simp (disch := omega)
  (repeat' first | apply hK | apply And.intro) <;> try first | omega | rfl | (simp <;> omega)
  refine ⟨i + 1, by omega, by omega, ?_⟩
  refine wk_list [(0, some 0), (1, some 1)] rfl ?_ ?_ ?_ ?_
  all_goals try simp [ibO, tab_succ]
 have hg := allL_some hkl
 have hg' := allL_get hkl
 obtain ⟨g1, g2, g3⟩ := ht.get hkl hkl
 have hPx : P (k : Int) = (!(oa || ob) || (la || lb) || decide (tabOf tb k k = k)) := by rw [hP]; simp
 have htk : ((allL n).take (k + 1)).filter P = ((allL n).take k).filter P ++ (if P (k : Int) = true then [(k : Int)] else []) := by
  have hkl' : k < (allL n).length := by simpa using hkl
  rw [List.take_succ_eq_append_getElem hkl', List.filter_append, hg' hkl']
  by_cases h : P (k : Int) = true
  ·simp [h]
  ·simp [h]
 have hTb : ((tabOf tb k k : Int) == (k : Int)) = decide (tabOf tb k k = k) := by
  by_cases h : tabOf tb k k = k
  ·rw [h]; simp
  ·rw [decide_eq_false h]
   exact beq_eq_false_iff_ne.2 (by omega)
 refine condT (by simp [hkl] <;> omega) ?_
 refine awp_skip ?_
 show awp _ _ _ _
 refine awp_seq ?_
 refine awp_block ?_
 refine rgS fun K hK => ?_
 simp (disch := omega) [hkl, hg]
 and_intros <;> try first | apply hK | omega | rfl | simp <;> omega
 refine awp_seq (awp_mono (Q := fun e σ => e = Exit.normal ∧ Wk σ (mkS [(0, .t 0 (rows tb)), (1, .t 0 (ints (allL n))), (5, .ptr 0 0 6), (9, .own 1 i), (10, .t 2 (.int .i64 i)), (11, .t 2 (.bool la)), (12, .t 2 (.bool oa)), (13, .t 2 (.bool lb)), (14, .t 2 (.bool ob)), (15, .own 2 (((allL n).take k).filter P).length), (17, .t 2 (.int .i64 k)), (46, .t 0 (ints (allL n))), (47, .t 2 (.int .i64 n)), (48, .t 2 (.int .i64 k)), (74, .t 2 (.bool (P (k : Int))))] [(0, ibO a b), (1, .row 22 1 2 (tab i fun j => ints (R j))), (2, .row 3 1 2 ((((allL n).take k).filter P).map (.int .i64)))] 3 85 [.any, .any, .any])) ?_ ?_)
 ·rw [hPx]
  cases la <;> cases lb <;> cases oa <;> cases ob
  all_goals
   refine rgL fun K hK => ?_
   simp (disch := omega) [g1, g2, g3]
   (repeat' first | apply hK | apply And.intro) <;> try first | omega | rfl | (simp <;> omega)
   refine wk_list [(0, some 0), (1, some 1), (2, some 2)] rfl ?_ ?_ ?_ ?_
   all_goals try simp [ibO, hTb]
 rintro e σ ⟨rfl, hw⟩
 refine awp_weak hw ?_
 clear hw
 show awp _ _ _ _
 by_cases hp : P (k : Int) = true
 ·rw [if_pos hp] at htk
  rw [hp]
  refine condT (by simp <;> omega) ?_
  refine rgL fun K hK => ?_
  simp (disch := omega)
  and_intros <;> try first | apply hK | omega | rfl | simp <;> omega
  show awp _ _ _ _
  refine rgL fun K hK => ?_
  simp (disch := omega)
  (repeat' first | apply hK | apply And.intro) <;> try first | omega | rfl | (simp <;> omega)
  refine ⟨k + 1, by omega, by omega, ?_⟩
  rw [htk]
  refine wk_list [(0, some 0), (1, some 1), (2, some 2)] rfl ?_ ?_ ?_ ?_
  all_goals try simp [ibO]
 ·rw [if_neg hp, List.append_nil] at htk
  have hp : P (k : Int) = false := by simpa using hp
  rw [hp]
  refine condF (by simp <;> omega) ?_
  refine awp_skip ?_
  show awp _ _ _ _
  refine rgL fun K hK => ?_
  simp (disch := omega)
  (repeat' first | apply hK | apply And.intro) <;> try first | omega | rfl | (simp <;> omega)
  refine ⟨k + 1, by omega, by omega, ?_⟩
  rw [htk]
  refine wk_list [(0, some 0), (1, some 1), (2, some 2)] rfl ?_ ?_ ?_ ?_
  all_goals try simp [ibO]
end Go.Proofs.YtghnmmfkckneaaaGreat.M
