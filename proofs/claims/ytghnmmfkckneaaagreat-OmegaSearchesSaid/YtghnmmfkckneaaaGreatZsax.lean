/-
  Walks in my logic: Powers, Omega, In, Identity of the reference of layer 14.
-/
import Derived.Test.YtghnmmfkckneaaaGreatZsap
import Derived.Test.YtghnmmfkckneaaaGreatZsaq
namespace Go.Proofs.YtghnmmfkckneaaaGreat.M
open Go.RowKit
set_option linter.unusedVariables false
set_option maxRecDepth 100000
set_option maxHeartbeats 32000000
attribute [local simp] ints rows scal wr64 wr8
set_option linter.unusedSimpArgs false

def pwT (T : Nat → Nat → Nat) (x k : Nat) : List Int := tab (k + 1) fun j => ((pw T x j : Nat) : Int)
def pwO (T : Nat → Nat → Nat) (x k : Nat) : AObj := .row 3 1 2 (tab (k + 1) fun j => .int .i64 (pw T x j : Nat))
def PwG (T : Nat → Nat → Nat) (n x : Nat) (res : AV) : Prop := ∃ k i : Nat, i ≤ k ∧ k < n ∧ pw T x i = pw T x (k + 1) ∧ res = .tup [.t 2 (ints (pwT T x k)), .t 2 (.int .i64 (i : Nat))]
theorem pw_dist {T : Nat → Nat → Nat} {n x k : Nat} (hT : ∀ r c, r < n → c < n → T r c < n) (hx : x < n) (h : ∀ i j, i < j → j ≤ k → pw T x i ≠ pw T x j) : k < n := by
 rcases Nat.lt_or_ge k n with hk | hk
 ·exact hk
 ·obtain ⟨i, j, h1, h2, h3⟩ := pw_rep hT hx
  exact absurd h3 (h i j h1 (by omega))
theorem pwO_snoc {T : Nat → Nat → Nat} {x k : Nat} : (tab (k + 1) fun j => M.T.int .i64 (pw T x j : Nat)) ++ [M.T.int .i64 (pw T x (k + 1) : Nat)] = tab (k + 1 + 1) fun j => M.T.int .i64 (pw T x j : Nat) := by
 rw [tab_succ (k + 1)]
theorem powers_fn (tb : List (List Int)) (n : Nat) (T : Nat → Nat → Nat) (ht : TbL tb n T) (hn : n ≤ 1000) (x : Nat) (hx : x < n) :
  ∃ res, PwG T n x res ∧ FnA Tryz.prog 78 [.t 0 (rows tb), .t 2 (.int .i64 (x : Nat))] res := by
 refine fn_introE Tryz.func78 rfl (by simp [Tryz.f78]) ?_
 rw [show Tryz.f78.ntmps = 41 from rfl, show Tryz.f78.results = #[.tmp 4, .tmp 5] from rfl]
 refine rgS fun K hK => ?_
 simp (disch := omega)
 and_intros <;> try first | apply hK | omega | rfl | simp <;> omega
 refine rgS fun K hK => ?_
 simp (disch := omega)
 and_intros <;> try first | apply hK | omega | rfl | simp <;> omega
 refine awp_block ?_
 refine awp_loop (fun k : Nat => mkS [(0, .t 0 (rows tb)), (1, .t 2 (.int .i64 (x : Nat))), (6, .own 0 (k + 1))] [(0, pwO T x k)] 1 41 [.any, .any]) (fun k => ∀ i j, i < j → j ≤ k → pw T x i ≠ pw T x j) (fun k => n - k) ?_ ?_
 ·refine ⟨0, fun i j h1 h2 => by omega, ?_⟩
  refine wk_list [(0, some 3000000)] rfl ?_ ?_ ?_ ?_
  all_goals try simp [pwO, tab, pw, itT]
 intro k hd
 have hkn := pw_dist ht.lt hx hd
 have hpl := pw_lt ht.lt hx k
 obtain ⟨g4, g5, g6⟩ := ht.get hpl hx
 have hps := pw_succ (T := T) x k
 refine awp_block ?_
 refine rgS fun K hK => ?_
 simp (disch := omega) [pwO, g4, g5, g6]
 and_intros <;> try first | apply hK | omega | rfl | simp <;> omega
 refine awp_weak (σ' := mkS [(0, .t 0 (rows tb)), (1, .t 2 (.int .i64 (x : Nat))), (6, .own 0 (k + 1)), (7, .t 2 (.int .i64 (pw T x (k + 1) : Nat)))] [(0, pwO T x k)] 1 41 [.any, .any]) ?_ ?_
 ·refine wk_list [(0, some 0)] rfl ?_ ?_ ?_ ?_
  all_goals try simp [pwO, hps]
 clear g4 g5 g6
 refine awp_seq ?_
 refine rgS fun K hK => ?_
 simp (disch := omega) [pwO]
 and_intros <;> try first | apply hK | omega | rfl | simp <;> omega
 refine awp_block ?_
 refine awp_loop (fun i : Nat => mkS [(0, .t 0 (rows tb)), (1, .t 2 (.int .i64 (x : Nat))), (6, .own 0 (k + 1)), (7, .t 2 (.int .i64 (pw T x (k + 1) : Nat))), (24, .t 2 (.int .i64 (k + 1 : Nat))), (25, .t 2 (.int .i64 (i : Nat)))] [(0, pwO T x k)] 1 41 [.any, .any]) (fun i => i ≤ k + 1 ∧ ∀ j, j < i → pw T x j ≠ pw T x (k + 1)) (fun i => k + 1 - i) ?_ ?_
 ·refine ⟨0, ⟨by omega, fun j h => by omega⟩, ?_⟩
  refine wk_list [(0, some 0)] rfl ?_ ?_ ?_ ?_
  all_goals try simp [pwO]
 rintro i ⟨hi, hne⟩
 refine rgS fun K hK => ?_
 simp (disch := omega)
 and_intros <;> try first | apply hK | omega | rfl | simp <;> omega
 refine awp_seq ?_
 by_cases hik : i < k + 1
 ·have hik' : (i : Int) < (k : Int) + 1 := by omega
  refine condT (by simp [hik'] <;> omega) ?_
  refine awp_skip ?_
  show awp _ _ _ _
  refine awp_seq ?_
  refine awp_block ?_
  refine rgS fun K hK => ?_
  simp (disch := omega)
  and_intros <;> try first | apply hK | omega | rfl | simp <;> omega
  refine rgS fun K hK => ?_
  simp (disch := omega) [pwO, hik]
  (repeat' first | apply hK | apply And.intro) <;> try first | omega | rfl | (simp <;> omega)
  by_cases he : pw T x i = pw T x (k + 1)
  ·refine condT (by simp [he] <;> omega) ?_
   refine rgS fun K hK => ?_
   simp (disch := omega) [pwO]
   and_intros <;> try first | apply hK | omega | rfl | simp <;> omega
   refine awp_ret ?_
   refine ⟨_, ⟨k, i, by omega, hkn, he, rfl⟩, ?_⟩
   refine ⟨⟨.inr rfl, _, [], rfl, trivial, trivial, by simp [pwO, pwT, tab_map], ?_⟩, by simp [pwO, pwT, tab_map]⟩
   simp [pwO, pwT, tab_map]
  ·refine condF (by simp [he] <;> omega) ?_
   refine awp_skip ?_
   show awp _ _ _ _
   refine rgL fun K hK => ?_
   simp (disch := omega)
   (repeat' first | apply hK | apply And.intro) <;> try first | omega | rfl | (simp <;> omega)
   refine ⟨i + 1, ⟨by omega, fun j hj => ?_⟩, by omega, ?_⟩
   ·rcases Nat.lt_or_ge j i with h | h
    ·exact hne j h
    ·obtain rfl : j = i := by omega
     exact he
   refine wk_list [(0, some 0)] rfl ?_ ?_ ?_ ?_
   all_goals try simp [pwO]
 ·obtain rfl : i = k + 1 := by omega
  refine condF (by simp <;> omega) ?_
  refine awp_exit ?_
  show awp _ _ _ _
  refine rgL fun K hK => ?_
  simp (disch := omega) [pwO]
  (repeat' first | apply hK | apply And.intro) <;> try first | omega | rfl | (simp <;> omega)
  refine ⟨k + 1, fun i j h1 h2 => ?_, by omega, ?_⟩
  ·rcases Nat.lt_or_ge j (k + 1) with h | h
   ·exact hd i j h1 (by omega)
   ·obtain rfl : j = k + 1 := by omega
    exact hne i h1
  refine wk_list [(0, some 0)] rfl ?_ ?_ ?_ ?_
  all_goals try simp [pwO, pwO_snoc]
theorem rOmega_fn (tb : List (List Int)) (n : Nat) (T : Nat → Nat → Nat) (ht : TbL tb n T) (hA : Assoc n T) (hn : n ≤ 1000) (x : Nat) (hx : x < n) :
  FnA Tryz.prog 45 [.t 0 (rows tb), .t 2 (.int .i64 (x : Nat))] (.t 2 (.int .i64 (omT T n x : Nat))) := by
 obtain ⟨res, ⟨k, i0, hi0, hkn, hrep, rfl⟩, hP⟩ := powers_fn tb n T ht hn x hx
 obtain ⟨k0, hk0, hom, hid, hno⟩ := omT_spec ht.lt hA hx
 have hk0k : k0 ≤ k := by
  rcases Nat.lt_or_ge k k0 with h | h
  ·exfalso
   obtain ⟨d, rfl⟩ : ∃ d, k0 = (k + 1) + d := ⟨k0 - (k + 1), by omega⟩
   have e : pw T x ((k + 1) + d) = pw T x (i0 + d) := (pw_it x (k + 1) d).symm.trans (by rw [← hrep]; exact pw_it x i0 d)
   rw [e] at hid
   exact hno (i0 + d) (by omega) hid
  ·exact h
 refine fn_intro Tryz.func45 rfl (by simp [Tryz.f45]) ?_
 rw [show Tryz.f45.ntmps = 32 from rfl, show Tryz.f45.results = #[.tmp 4] from rfl]
 refine rgS fun K hK => ?_
 simp (disch := omega)
 and_intros <;> try first | apply hK | omega | rfl | simp <;> omega
 refine rgS fun K hK => ?_
 simp (disch := omega)
 (repeat' apply And.intro)
 all_goals (try omega)
 refine callO (hP) rfl rfl rfl rfl (by kernel_rfl) (by simp) ?_ ?_
 ·simp
 simp (disch := omega)
 and_intros <;> try first | apply hK | omega | rfl | simp <;> omega
 refine awp_seq ?_
 refine rgS fun K hK => ?_
 simp (disch := omega)
 and_intros <;> try first | apply hK | omega | rfl | simp <;> omega
 refine awp_block ?_
 refine awp_loop (fun j : Nat => mkS [(0, .t 0 (rows tb)), (15, .t 2 (ints (pwT T x k))), (16, .t 2 (.int .i64 (k + 1 : Nat))), (17, .t 2 (.int .i64 (j : Nat)))] [] 0 32 [.any, .any]) (fun j => j ≤ k0) (fun j => k0 - j) ?_ ?_
 ·refine ⟨0, by omega, ?_⟩
  refine wk_list [] rfl ?_ ?_ ?_ ?_
  all_goals try simp [pwT]
 intro j hj
 have hpl := pw_lt ht.lt hx j
 obtain ⟨g1, g2, g3⟩ := ht.get hpl hpl
 have hjk : j < k + 1 := by omega
 have hjk' : (j : Int) < (k : Int) + 1 := by omega
 refine rgS fun K hK => ?_
 simp (disch := omega)
 and_intros <;> try first | apply hK | omega | rfl | simp <;> omega
 refine awp_seq ?_
 refine condT (by simp [hjk'] <;> omega) ?_
 refine awp_skip ?_
 show awp _ _ _ _
 refine awp_seq ?_
 refine awp_block ?_
 refine rgS fun K hK => ?_
 simp (disch := omega) [pwT, hjk, tab_map]
 and_intros <;> try first | apply hK | omega | rfl | simp <;> omega
 refine rgS fun K hK => ?_
 simp (disch := omega) [g1, g2, g3]
 (repeat' first | apply hK | apply And.intro) <;> try first | omega | rfl | (simp <;> omega)
 by_cases he : T (pw T x j) (pw T x j) = pw T x j
 ·obtain rfl : j = k0 := by
   rcases Nat.lt_or_ge j k0 with h | h
   ·exact absurd he (hno j h)
   ·omega
  refine condT (by simp [he] <;> omega) ?_
  refine rgS fun K hK => ?_
  simp (disch := omega)
  and_intros <;> try first | apply hK | omega | rfl | simp <;> omega
  refine awp_ret ?_
  rw [hom]
  refine ⟨⟨.inr rfl, _, [], rfl, trivial, trivial, by simp, ?_⟩, by simp⟩
  simp
 ·have hlt : j < k0 := by
   rcases Nat.lt_or_ge j k0 with h | h
   ·exact h
   ·obtain rfl : j = k0 := by omega
    exact absurd hid he
  refine condF (by simp [he] <;> omega) ?_
  refine awp_skip ?_
  show awp _ _ _ _
  refine rgL fun K hK => ?_
  simp (disch := omega)
  (repeat' first | apply hK | apply And.intro) <;> try first | omega | rfl | (simp <;> omega)
  refine ⟨j + 1, by omega, by omega, ?_⟩
  refine wk_list [] rfl ?_ ?_ ?_ ?_
  all_goals try simp [pwT, tab_map]
def inB (n : Nat) (l : List Int) : Bool := l.all fun x => decide (0 ≤ x) && decide (x < (n : Int))
theorem inB_t {n : Nat} {l : List Int} (h : ∀ i (h : i < l.length), 0 ≤ l[i] ∧ l[i] < (n : Int)) : inB n l = true := by
 unfold inB
 rw [List.all_eq_true]
 intro x hx
 obtain ⟨i, hi, rfl⟩ := List.getElem_of_mem hx
 have := h i hi
 simp [this.1, this.2]
theorem inB_f {n : Nat} {l : List Int} {i : Nat} (h : i < l.length) (hb : l[i] < 0 ∨ (n : Int) ≤ l[i]) : inB n l = false := by
 unfold inB
 rw [List.all_eq_false]
 refine ⟨l[i], List.getElem_mem h, ?_⟩
 rcases hb with hb | hb
 ·simp; omega
 ·simp; omega
theorem rIn_fn (tb : List (List Int)) (l : List Int) (hl : l.length ≤ 1000000) (htl : tb.length ≤ 1000000) :
  FnA Tryz.prog 16 [.t 0 (rows tb), .t 0 (ints l)] (.t 2 (.bool (inB tb.length l))) := by
 refine fn_intro Tryz.func16 rfl (by simp [Tryz.f16]) ?_
 rw [show Tryz.f16.ntmps = 22 from rfl, show Tryz.f16.results = #[.tmp 4] from rfl]
 refine rgS fun K hK => ?_
 simp (disch := omega)
 and_intros <;> try first | apply hK | omega | rfl | simp <;> omega
 refine awp_seq ?_
 refine rgS fun K hK => ?_
 simp (disch := omega)
 and_intros <;> try first | apply hK | omega | rfl | simp <;> omega
 refine awp_block ?_
 refine awp_loop (fun k : Nat => mkS [(0, .t 0 (rows tb)), (7, .t 0 (ints l)), (8, .t 2 (.int .i64 (l.length : Nat))), (9, .t 2 (.int .i64 (k : Nat)))] [] 0 22 [.any, .any]) (fun k => k ≤ l.length ∧ ∀ i (h : i < l.length), i < k → 0 ≤ l[i] ∧ l[i] < (tb.length : Int)) (fun k => l.length - k) ?_ ?_
 ·refine ⟨0, ⟨by omega, fun i h h2 => by omega⟩, ?_⟩
  refine wk_list [] rfl ?_ ?_ ?_ ?_
  all_goals try simp
 rintro k ⟨hk, hin⟩
 refine rgS fun K hK => ?_
 simp (disch := omega)
 and_intros <;> try first | apply hK | omega | rfl | simp <;> omega
 refine awp_seq ?_
 by_cases hkl : k < l.length
 ·refine condT (by simp [hkl] <;> omega) ?_
  refine awp_skip ?_
  show awp _ _ _ _
  refine awp_seq ?_
  refine awp_block ?_
  refine rgS fun K hK => ?_
  simp (disch := omega) [hkl]
  (repeat' first | apply hK | apply And.intro) <;> try first | omega | rfl | (simp <;> omega)
  by_cases h1 : l[k] < 0
  ·refine rgS fun K hK => ?_
   simp (disch := omega) [h1]
   and_intros <;> try first | apply hK | omega | rfl | simp <;> omega
   refine condT (by simp [h1] <;> omega) ?_
   refine rgS fun K hK => ?_
   simp (disch := omega)
   and_intros <;> try first | apply hK | omega | rfl | simp <;> omega
   refine awp_ret ?_
   rw [inB_f hkl (.inl h1)]
   refine ⟨⟨.inr rfl, _, [], rfl, trivial, trivial, by simp, ?_⟩, by simp⟩
   simp
  ·refine rgS fun K hK => ?_
   simp (disch := omega) [h1]
   (repeat' first | apply hK | apply And.intro) <;> try first | omega | rfl | (simp <;> omega)
   by_cases h2 : (tb.length : Int) ≤ l[k]
   ·refine condT (by simp [h2] <;> omega) ?_
    refine rgS fun K hK => ?_
    simp (disch := omega)
    and_intros <;> try first | apply hK | omega | rfl | simp <;> omega
    refine awp_ret ?_
    rw [inB_f hkl (.inr h2)]
    refine ⟨⟨.inr rfl, _, [], rfl, trivial, trivial, by simp, ?_⟩, by simp⟩
    simp
   ·refine condF (by simp [h2] <;> omega) ?_
    refine awp_skip ?_
    show awp _ _ _ _
    refine rgL fun K hK => ?_
    simp (disch := omega)
    (repeat' first | apply hK | apply And.intro) <;> try first | omega | rfl | (simp <;> omega)
    refine ⟨k + 1, ⟨by omega, fun i h h3 => ?_⟩, by omega, ?_⟩
    ·rcases Nat.lt_or_ge i k with h4 | h4
     ·exact hin i h h4
     ·obtain rfl : i = k := by omega
      omega
    refine wk_list [] rfl ?_ ?_ ?_ ?_
    all_goals try simp
 ·obtain rfl : k = l.length := by omega
  refine condF (by simp <;> omega) ?_
  refine awp_exit ?_
  show awp _ _ _ _
  refine rgS fun K hK => ?_
  simp (disch := omega)
  and_intros <;> try first | apply hK | omega | rfl | simp <;> omega
  refine awp_ret ?_
  rw [inB_t fun i h => hin i h h]
  refine ⟨⟨.inr rfl, _, [], rfl, trivial, trivial, by simp, ?_⟩, by simp⟩
  simp
theorem idG_succ (T : Nat → Nat → Nat) (n f e : Nat) : idG T n (f + 1) e = if isId T n e = true then (e : Int) else idG T n f (e + 1) := rfl
theorem rIdentity_fn (tb : List (List Int)) (n : Nat) (T : Nat → Nat → Nat) (ht : TbL tb n T) (hn : n ≤ 1000) :
  FnA Tryz.prog 14 [.t 0 (rows tb)] (.t 2 (.int .i64 (idI T n))) := by
 have htl := ht.len
 refine fn_intro Tryz.func14 rfl (by simp [Tryz.f14]) ?_
 rw [show Tryz.f14.ntmps = 43 from rfl, show Tryz.f14.results = #[.tmp 2] from rfl]
 refine rgS fun K hK => ?_
 simp (disch := omega)
 and_intros <;> try first | apply hK | omega | rfl | simp <;> omega
 refine awp_seq ?_
 refine rgS fun K hK => ?_
 simp (disch := omega)
 and_intros <;> try first | apply hK | omega | rfl | simp <;> omega
 refine awp_block ?_
 refine awp_loop (fun e : Nat => mkS [(0, .t 0 (rows tb)), (7, .t 2 (.int .i64 (n : Nat))), (8, .t 2 (.int .i64 (e : Nat)))] [] 0 43 [.any]) (fun e => e ≤ n ∧ idI T n = idG T n (n - e) e) (fun e => n - e) ?_ ?_
 ·refine ⟨0, ⟨by omega, rfl⟩, ?_⟩
  refine wk_list [] rfl ?_ ?_ ?_ ?_
  all_goals try simp [htl]
 rintro e ⟨he, hI⟩
 refine rgS fun K hK => ?_
 simp (disch := omega)
 and_intros <;> try first | apply hK | omega | rfl | simp <;> omega
 refine awp_seq ?_
 by_cases hen : e < n
 ·rw [show n - e = (n - (e + 1)) + 1 by omega, idG_succ] at hI
  refine condT (by simp [hen] <;> omega) ?_
  refine awp_skip ?_
  show awp _ _ _ _
  refine awp_seq ?_
  refine awp_block ?_
  refine rgS fun K hK => ?_
  simp (disch := omega)
  and_intros <;> try first | apply hK | omega | rfl | simp <;> omega
  refine rgS fun K hK => ?_
  simp (disch := omega)
  and_intros <;> try first | apply hK | omega | rfl | simp <;> omega
  refine awp_seq ?_
  refine rgS fun K hK => ?_
  simp (disch := omega)
  and_intros <;> try first | apply hK | omega | rfl | simp <;> omega
  refine awp_block ?_
  refine awp_loop (fun x : Nat => mkS [(0, .t 0 (rows tb)), (3, .t 2 (.int .i64 (e : Nat))), (4, .t 2 (.bool (isId T x e))), (7, .t 2 (.int .i64 (n : Nat))), (8, .t 2 (.int .i64 (e : Nat))), (12, .t 2 (.int .i64 (n : Nat))), (13, .t 2 (.int .i64 (x : Nat)))] [] 0 43 [.any]) (fun x => x ≤ n) (fun x => n - x) ?_ ?_
  ·refine ⟨0, by omega, ?_⟩
   refine wk_list [] rfl ?_ ?_ ?_ ?_
   all_goals try simp [htl, isId]
  intro x hx
  obtain ⟨c, hc⟩ : ∃ c, c = isId T x e := ⟨_, rfl⟩
  rw [← hc]
  refine rgS fun K hK => ?_
  simp (disch := omega)
  and_intros <;> try first | apply hK | omega | rfl | simp <;> omega
  refine awp_seq ?_
  by_cases hxn : x < n
  ·have hnx := isId_succ T x e
   rw [← hc] at hnx
   obtain ⟨g1, g2, g3⟩ := ht.get hen hxn
   obtain ⟨g4, g5, g6⟩ := ht.get hxn hen
   refine condT (by simp [hxn] <;> omega) ?_
   refine awp_skip ?_
   show awp _ _ _ _
   refine awp_seq ?_
   refine awp_block ?_
   refine rgS fun K hK => ?_
   simp (disch := omega)
   (repeat' first | apply hK | apply And.intro) <;> try first | omega | rfl | (simp <;> omega)
   cases c with
   | false =>
    refine rgL fun K hK => ?_
    simp (disch := omega)
    and_intros <;> try first | apply hK | omega | rfl | simp <;> omega
    show awp _ _ _ _
    refine rgL fun K hK => ?_
    simp (disch := omega)
    (repeat' first | apply hK | apply And.intro) <;> try first | omega | rfl | (simp <;> omega)
    refine ⟨x + 1, by omega, by omega, ?_⟩
    refine wk_list [] rfl ?_ ?_ ?_ ?_
    all_goals try simp [hnx]
   | true =>
    by_cases h1 : T e x = x
    ·refine rgL fun K hK => ?_
     simp (disch := omega) [g1, g2, g3, h1, g4, g5, g6]
     and_intros <;> try first | apply hK | omega | rfl | simp <;> omega
     show awp _ _ _ _
     refine rgL fun K hK => ?_
     simp (disch := omega)
     (repeat' first | apply hK | apply And.intro) <;> try first | omega | rfl | (simp <;> omega)
     refine ⟨x + 1, by omega, by omega, ?_⟩
     refine wk_list [] rfl ?_ ?_ ?_ ?_
     all_goals try simp [hnx, h1]
     by_cases h2 : T x e = x <;> simp [h2]
     omega
    ·have h1' : ((T e x : Int) == (x : Int)) = false := by simp; omega
     refine rgL fun K hK => ?_
     simp (disch := omega) [g1, g2, g3, h1']
     and_intros <;> try first | apply hK | omega | rfl | simp <;> omega
     show awp _ _ _ _
     refine rgL fun K hK => ?_
     simp (disch := omega)
     (repeat' first | apply hK | apply And.intro) <;> try first | omega | rfl | (simp <;> omega)
     refine ⟨x + 1, by omega, by omega, ?_⟩
     refine wk_list [] rfl ?_ ?_ ?_ ?_
     all_goals try simp [hnx, h1]
  ·obtain rfl : x = n := by omega
   refine condF (by simp <;> omega) ?_
   refine awp_exit ?_
   show awp _ _ _ _
   cases c with
   | true =>
    rw [if_pos hc.symm] at hI
    refine rgS fun K hK => ?_
    simp (disch := omega)
    and_intros <;> try first | apply hK | omega | rfl | simp <;> omega
    refine condT (by simp <;> omega) ?_
    refine rgS fun K hK => ?_
    simp (disch := omega)
    and_intros <;> try first | apply hK | omega | rfl | simp <;> omega
    refine awp_ret ?_
    rw [hI]
    refine ⟨⟨.inr rfl, _, [], rfl, trivial, trivial, by simp, ?_⟩, by simp⟩
    simp
   | false =>
    rw [if_neg (by rw [← hc]; decide)] at hI
    refine rgS fun K hK => ?_
    simp (disch := omega)
    and_intros <;> try first | apply hK | omega | rfl | simp <;> omega
    refine condF (by simp <;> omega) ?_
    refine awp_skip ?_
    show awp _ _ _ _
    refine rgL fun K hK => ?_
    simp (disch := omega)
    (repeat' first | apply hK | apply And.intro) <;> try first | omega | rfl | (simp <;> omega)
    refine ⟨e + 1, ⟨by omega, hI⟩, by omega, ?_⟩
    refine wk_list [] rfl ?_ ?_ ?_ ?_
    all_goals try simp
 ·obtain rfl : e = n := by omega
  refine condF (by simp <;> omega) ?_
  refine awp_exit ?_
  show awp _ _ _ _
  refine rgS fun K hK => ?_
  simp (disch := omega)
  and_intros <;> try first | apply hK | omega | rfl | simp <;> omega
  refine awp_ret ?_
  rw [hI, Nat.sub_self]
  refine ⟨⟨.inr rfl, _, [], rfl, trivial, trivial, by simp [idG], ?_⟩, by simp [idG]⟩
  simp [idG]
end Go.Proofs.YtghnmmfkckneaaaGreat.M
