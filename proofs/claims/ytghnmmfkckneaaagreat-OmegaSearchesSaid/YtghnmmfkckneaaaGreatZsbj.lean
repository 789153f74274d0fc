/-
  Walk in my logic: generated terms (semigroupmade.Term).
-/
import Derived.Test.YtghnmmfkckneaaaGreatZsao
import Derived.Test.YtghnmmfkckneaaaGreatZsar
namespace Go.Proofs.YtghnmmfkckneaaaGreat.M
open Go.RowKit
set_option linter.unusedVariables false
set_option maxRecDepth 100000
set_option maxHeartbeats 32000000
attribute [local simp] ints rows scal wr64 wr8
set_option linter.unusedSimpArgs false

def tmB : Nat → Nat
 | 0 => 1
 | d + 1 => 1 + 3 * tmB d
theorem tmB_pos (d : Nat) : 1 ≤ tmB d := by cases d <;> simp [tmB] <;> omega
def TmG (xs : List Int) (d : Nat) (res : AV) (H' : List AObj) : Prop := ∃ (t : Tm) (b : Nat), t.ok = true ∧ t.sz ≤ tmB d ∧ b ≤ xs.length ∧ res = tmV 2 t ∧ H' = [tpO 1 xs b]
def TmG' (xs : List Int) (d : Nat) (res : AV) (H' : List AObj) : Prop := ∃ (t : Tm) (b : Nat), t.ok = true ∧ t.sz ≤ tmB d ∧ b ≤ xs.length ∧ (res = tmV 2 t ∨ t.args = [] ∧ res = tmL t.op t.n) ∧ H' = [tpO 1 xs b]
theorem TmG'.turn {P : Program} {f : FuncId} {args : List AV} {H : List AObj} {xs : List Int} {d : Nat} (h : ∃ res H', TmG' xs d res H' ∧ FnS P f args H res H') : ∃ res H', TmG xs d res H' ∧ FnS P f args H res H' := by
 obtain ⟨res, H', ⟨t, b, h1, h2, h3, h4, h5⟩, hF⟩ := h
 refine ⟨tmV 2 t, H', ⟨t, b, h1, h2, h3, rfl, h5⟩, ?_⟩
 rcases h4 with rfl | ⟨h4, rfl⟩
 ·exact hF
 ·refine hF.res' fun E v hv => ?_
  obtain ⟨o, n, l⟩ := t
  have h4 : l = [] := h4
  subst h4
  exact hv.zeT
theorem rng_6 : List.range 6 = [0, 1, 2, 3, 4, 5] := rfl
theorem exp_at {v : Nat} (h : (v : Int) < 6) : ∃ n : Int, -1 ≤ n ∧ n ≤ 9 ∧ ([.int .i64 0, .int .i64 0, .int .i64 1, .int .i64 (-1), .int .i64 9, .int .i64 2] : List T)[v]? = some (.int .i64 n) := by
 rcases (by omega : v = 0 ∨ v = 1 ∨ v = 2 ∨ v = 3 ∨ v = 4 ∨ v = 5) with rfl | rfl | rfl | rfl | rfl | rfl
 all_goals exact ⟨_, by omega, by omega, rfl⟩
theorem ok_var {n : Nat} (h : n < 6) : (Tm.mk 2 n []).ok = true := by
 rw [ok_eq, Bool.and_eq_true]
 exact ⟨decide_eq_true (.inr (.inl ⟨rfl, by show (0 : Int) ≤ n; omega, by show (n : Int) < 6; omega, rfl⟩)), rfl⟩
theorem ok_one : (Tm.mk 1 0 []).ok = true := by decide
theorem ok_pow {n : Int} {t : Tm} (h0 : -1 ≤ n) (h9 : n ≤ 9) (h : t.ok = true) : (Tm.mk 4 n [t]).ok = true := by
 rw [ok_eq, Bool.and_eq_true]
 exact ⟨decide_eq_true (.inr (.inr (.inr ⟨rfl, h0, h9, rfl⟩))), by show (t.ok && true) = true; rw [h]; rfl⟩
theorem ok_cat {l : List Tm} (h : ∀ a ∈ l, a.ok = true) (h2 : 2 ≤ l.length) : (Tm.mk 3 0 l).ok = true := by
 rw [ok_eq, Bool.and_eq_true]
 exact ⟨decide_eq_true (.inr (.inr (.inl ⟨rfl, rfl, h2⟩))), okL'_all.2 h⟩
theorem szL_le {B : Nat} : ∀ {l : List Tm}, (∀ a ∈ l, a.sz ≤ B) → szL l ≤ l.length * B
 | [], h => by simp [szL]
 | a :: l, h => by
  have := szL_le (l := l) fun b hb => h b (by simp [hb])
  have := h a (by simp)
  rw [szL, List.length_cons, Nat.add_mul]; omega
theorem term_made (xs : List Int) (hl : xs.length ≤ 80) (vars : Nat) (hv1 : 1 ≤ vars) (hv6 : vars ≤ 6) : ∀ (d a : Nat), d ≤ 10 → a ≤ xs.length → ∃ res H', TmG xs d res H' ∧
  FnS Tryz.prog 18 [.ptr 0 0 2, .t 2 (.int .i64 vars), .t 2 (.int .i64 d)] [tpO 1 xs a] res H' := by
 intro d
 induction d with
 | zero =>
  intro a hd ha
  obtain ⟨v, b, hv, hb, hN⟩ := next_fn xs a vars ha hl (by omega)
  have hv := hv (by omega)
  refine TmG'.turn ?_
  refine fn_introGE Tryz.func18 rfl (by simp [Tryz.f18]) ?_
  rw [show Tryz.f18.ntmps = 60 from rfl, show Tryz.f18.results = #[.cell 6 29] from rfl]
  refine rgS fun K hK => ?_
  simp (maxSteps := 2000000) (disch := omega)
  and_intros <;> try first | apply hK | omega | rfl | simp <;> omega
  refine awp_seq ?_
  refine rgS fun K hK => ?_
  simp (maxSteps := 2000000) (disch := omega)
  and_intros <;> try first | apply hK | omega | rfl | simp <;> omega
  refine condT (by simp <;> omega) ?_
  refine rgS fun K hK => ?_
  simp (maxSteps := 2000000) (disch := omega) [tsTerm]
  (repeat' apply And.intro)
  all_goals (try omega)
  refine call_rule (caps := []) (hN) [0] [0] 1 rfl rfl rfl rfl (by kernel_rfl) (by simp) ?_ ?_ (by simp) rfl (by simp) ⟨.inr ⟨rfl, 0, _, _, _, _, _, rfl, rfl, rfl, rfl, rfl⟩, trivial⟩ (by simp [tpO]) ?_
  ·simp [tpO]
  ·simp [tpO]
  simp (maxSteps := 2000000) (disch := omega) [tpO, tsTerm]
  and_intros <;> try first | apply hK | omega | rfl | simp <;> omega
  refine awp_ret ?_
  refine ⟨⟨_, _, ⟨.mk 2 v [], b, ok_var (by omega), Nat.le_refl _, hb, .inr ⟨rfl, rfl⟩, rfl⟩, resQ_G ?_⟩, by simp⟩
  refine ⟨.inr rfl, _, [(0, some 0)], (by first | (simp; rfl) | rfl), ?_, ?_, ?_, ?_⟩
  all_goals try simp +contextual (disch := omega) [beq_gt, beq_lt, eq_lt, eq_gt, lt_t, List.getElem?_cons_succ, Option.getD_some, callF, ints, scal, tpO, wkPs_snoc, wkPs_tab, wkT_tab, wk1, rows, bools, tmV, tmL, Tm.op, Tm.n, Tm.args, cellsL, tsTerm]
 | succ d ih =>
  intro a hd ha
  obtain ⟨v, a1, hv, ha1, hN⟩ := next_fn xs a 5 ha hl (by omega)
  have hv := hv (by omega)
  have hB := tmB_pos d
  have htB : tmB (d + 1) = 1 + 3 * tmB d := rfl
  refine TmG'.turn ?_
  refine fn_introGE Tryz.func18 rfl (by simp [Tryz.f18]) ?_
  rw [show Tryz.f18.ntmps = 60 from rfl, show Tryz.f18.results = #[.cell 6 29] from rfl]
  refine rgS fun K hK => ?_
  simp (maxSteps := 2000000) (disch := omega)
  and_intros <;> try first | apply hK | omega | rfl | simp <;> omega
  refine awp_seq ?_
  refine rgS fun K hK => ?_
  simp (maxSteps := 2000000) (disch := omega)
  and_intros <;> try first | apply hK | omega | rfl | simp <;> omega
  refine condF (by simp <;> omega) ?_
  refine awp_skip ?_
  show awp _ _ _ _
  refine awp_seq ?_
  refine rgS fun K hK => ?_
  simp (maxSteps := 2000000) (disch := omega)
  (repeat' apply And.intro)
  all_goals (try omega)
  refine call_rule (caps := []) (hN) [0] [0] 1 rfl rfl rfl rfl (by kernel_rfl) (by simp) ?_ ?_ (by simp) rfl (by simp) ⟨.inr ⟨rfl, 0, _, _, _, _, _, rfl, rfl, rfl, rfl, rfl⟩, trivial⟩ (by simp [tpO]) ?_
  ·simp [tpO]
  ·simp [tpO]
  simp (maxSteps := 2000000) (disch := omega) [tpO, tsTerm]
  and_intros <;> try first | apply hK | omega | rfl | simp <;> omega
  refine awp_weak (σ' := mkS [(0, .ptr 0 0 2), (1, .t 2 (.int .i64 vars)), (2, .t 2 (.int .i64 (d + 1 : Nat))), (6, .ptr 1 0 3), (16, .t 2 (.int .i64 v))] [(0, tpO 1 xs a1), (1, zeO)] 2 60 [.ptr 0 0 2, .any, .any]) ?_ ?_
  ·refine wk_list [(0, some 0), (1, some 1)] rfl ?_ ?_ ?_ ?_
   all_goals try simp [tpO, zeO, tsTerm]
  refine awp_block ?_
  by_cases h0 : (v : Int) = 0
  ·refine rgS fun K hK => ?_
   simp (maxSteps := 2000000) (disch := omega) [h0]
   and_intros <;> try first | apply hK | omega | rfl | simp <;> omega
   refine condT (by simp [h0] <;> omega) ?_
   refine rgS fun K hK => ?_
   simp (maxSteps := 2000000) (disch := omega) [tpO, zeO, tsTerm]
   and_intros <;> try first | apply hK | omega | rfl | simp <;> omega
   refine awp_ret ?_
   refine ⟨⟨_, _, ⟨.mk 1 0 [], a1, ok_one, by show 1 + 0 ≤ _; omega, ha1, .inr ⟨rfl, rfl⟩, rfl⟩, resQ_G ?_⟩, by simp⟩
   refine ⟨.inr rfl, _, [(0, some 0)], (by first | (simp; rfl) | rfl), ?_, ?_, ?_, ?_⟩
   all_goals try simp +contextual (disch := omega) [beq_gt, beq_lt, eq_lt, eq_gt, lt_t, List.getElem?_cons_succ, Option.getD_some, callF, ints, scal, tpO, wkPs_snoc, wkPs_tab, wkT_tab, wk1, rows, bools, tmV, tmL, Tm.op, Tm.n, Tm.args, cellsL, tsTerm, zeO]
  by_cases h1 : (v : Int) = 1 ∨ (v : Int) = 2
  ·obtain ⟨v2, a2, hv2, ha2, hN2⟩ := next_fn xs a1 vars ha1 hl (by omega)
   have hv2 := hv2 (by omega)
   refine rgS fun K hK => ?_
   simp (maxSteps := 2000000) (disch := omega) [h0]
   and_intros <;> try first | apply hK | omega | rfl | simp <;> omega
   refine condF (by simp [h0] <;> omega) ?_
   refine awp_seq ?_
   rcases h1 with h1 | h1
   ·refine rgS fun K hK => ?_
    simp (maxSteps := 2000000) (disch := omega) [h1]
    and_intros <;> try first | apply hK | omega | rfl | simp <;> omega
    refine condT (by simp [h1] <;> omega) ?_
    refine awp_skip ?_
    show awp _ _ _ _
    refine condT (by simp [h1] <;> omega) ?_
    refine rgS fun K hK => ?_
    simp (maxSteps := 2000000) (disch := omega) [tpO]
    (repeat' apply And.intro)
    all_goals (try omega)
    refine call_rule (caps := []) (hN2) [0] [0] 1 rfl rfl rfl rfl (by kernel_rfl) (by simp) ?_ ?_ (by simp) rfl (by simp) ⟨.inr ⟨rfl, 0, _, _, _, _, _, rfl, rfl, rfl, rfl, rfl⟩, trivial⟩ (by simp [tpO]) ?_
    ·simp [tpO]
    ·simp [tpO]
    simp (maxSteps := 2000000) (disch := omega) [tpO, zeO, tsTerm]
    and_intros <;> try first | apply hK | omega | rfl | simp <;> omega
    refine awp_ret ?_
    refine ⟨⟨_, _, ⟨.mk 2 v2 [], a2, ok_var (by omega), by show 1 + 0 ≤ _; omega, ha2, .inr ⟨rfl, rfl⟩, rfl⟩, resQ_G ?_⟩, by simp⟩
    refine ⟨.inr rfl, _, [(0, some 0)], (by first | (simp; rfl) | rfl), ?_, ?_, ?_, ?_⟩
    all_goals try simp +contextual (disch := omega) [beq_gt, beq_lt, eq_lt, eq_gt, lt_t, List.getElem?_cons_succ, Option.getD_some, callF, ints, scal, tpO, wkPs_snoc, wkPs_tab, wkT_tab, wk1, rows, bools, tmV, tmL, Tm.op, Tm.n, Tm.args, cellsL, tsTerm, zeO]
   ·refine rgS fun K hK => ?_
    simp (maxSteps := 2000000) (disch := omega) [h1]
    and_intros <;> try first | apply hK | omega | rfl | simp <;> omega
    refine condF (by simp [h1] <;> omega) ?_
    refine rgL fun K hK => ?_
    simp (maxSteps := 2000000) (disch := omega) [h1]
    and_intros <;> try first | apply hK | omega | rfl | simp <;> omega
    show awp _ _ _ _
    refine condT (by simp [h1] <;> omega) ?_
    refine rgS fun K hK => ?_
    simp (maxSteps := 2000000) (disch := omega) [tpO]
    (repeat' apply And.intro)
    all_goals (try omega)
    refine call_rule (caps := []) (hN2) [0] [0] 1 rfl rfl rfl rfl (by kernel_rfl) (by simp) ?_ ?_ (by simp) rfl (by simp) ⟨.inr ⟨rfl, 0, _, _, _, _, _, rfl, rfl, rfl, rfl, rfl⟩, trivial⟩ (by simp [tpO]) ?_
    ·simp [tpO]
    ·simp [tpO]
    simp (maxSteps := 2000000) (disch := omega) [tpO, zeO, tsTerm]
    and_intros <;> try first | apply hK | omega | rfl | simp <;> omega
    refine awp_ret ?_
    refine ⟨⟨_, _, ⟨.mk 2 v2 [], a2, ok_var (by omega), by show 1 + 0 ≤ _; omega, ha2, .inr ⟨rfl, rfl⟩, rfl⟩, resQ_G ?_⟩, by simp⟩
    refine ⟨.inr rfl, _, [(0, some 0)], (by first | (simp; rfl) | rfl), ?_, ?_, ?_, ?_⟩
    all_goals try simp +contextual (disch := omega) [beq_gt, beq_lt, eq_lt, eq_gt, lt_t, List.getElem?_cons_succ, Option.getD_some, callF, ints, scal, tpO, wkPs_snoc, wkPs_tab, wkT_tab, wk1, rows, bools, tmV, tmL, Tm.op, Tm.n, Tm.args, cellsL, tsTerm, zeO]
  by_cases h3 : (v : Int) = 3
  ·obtain ⟨v2, a2, hv2, ha2, hN2⟩ := next_fn xs a1 6 ha1 hl (by omega)
   obtain ⟨en, he0, he9, hen⟩ := exp_at (hv2 (by omega))
   have hv2 := hv2 (by omega)
   obtain ⟨res, H', ⟨t, b, hok, htz, hb, rfl, rfl⟩, hT⟩ := ih a2 (by omega) ha2
   refine rgS fun K hK => ?_
   simp (maxSteps := 2000000) (disch := omega) [h0]
   and_intros <;> try first | apply hK | omega | rfl | simp <;> omega
   refine condF (by simp [h0] <;> omega) ?_
   refine awp_seq ?_
   refine rgS fun K hK => ?_
   simp (maxSteps := 2000000) (disch := omega) [h3]
   and_intros <;> try first | apply hK | omega | rfl | simp <;> omega
   refine condF (by simp [h3] <;> omega) ?_
   refine rgL fun K hK => ?_
   simp (maxSteps := 2000000) (disch := omega) [h3]
   and_intros <;> try first | apply hK | omega | rfl | simp <;> omega
   show awp _ _ _ _
   refine condF (by simp [h3] <;> omega) ?_
   refine rgS fun K hK => ?_
   simp (maxSteps := 2000000) (disch := omega) [h3]
   and_intros <;> try first | apply hK | omega | rfl | simp <;> omega
   refine condT (by simp [h3] <;> omega) ?_
   refine awp_seqD (by kernel_rfl) (fun K hK => ?_)
   simp (maxSteps := 2000000) (disch := omega) [tpO, rng_6]
   (repeat' apply And.intro)
   all_goals (try omega)
   refine call_ruleD (caps := []) (hN2) [0] [0] 1 rfl rfl rfl rfl (by kernel_rfl) (by simp) ?_ ?_ (by simp) rfl (by simp) ⟨.inr ⟨rfl, 0, _, _, _, _, _, rfl, rfl, rfl, rfl, rfl⟩, trivial⟩ (by simp [tpO]) ?_
   ·simp [tpO]
   ·simp [tpO]
   simp (maxSteps := 2000000) (disch := omega) [tpO, hen]
   (repeat' apply And.intro)
   all_goals (try omega)
   refine call_ruleD (caps := []) (hT) [0] [0] 1 rfl rfl rfl rfl (by kernel_rfl) (by simp) ?_ ?_ (by simp) rfl (by simp) ⟨.inr ⟨rfl, 0, _, _, _, _, _, rfl, rfl, rfl, rfl, rfl⟩, trivial⟩ (by simp [tpO]) ?_
   ·simp [tpO, tmV]
   ·simp [tpO, tmV]
   simp (maxSteps := 2000000) (disch := omega) [tpO, tmV, tsTerm, zeO]
   and_intros <;> try first | apply hK | (show chkD _ _ = true; kernel_rfl) | omega | rfl | simp <;> omega
   refine awp_ret ?_
   refine ⟨⟨_, _, ⟨.mk 4 en [t], b, ok_pow he0 he9 hok, by show 1 + (t.sz + 0) ≤ _; omega, hb, .inl rfl, rfl⟩, resQ_G ?_⟩, by simp⟩
   refine ⟨.inr rfl, _, [(0, some 0)], (by first | (simp; rfl) | rfl), ?_, ?_, ?_, ?_⟩
   all_goals try simp +contextual (disch := omega) [beq_gt, beq_lt, eq_lt, eq_gt, lt_t, List.getElem?_cons_succ, Option.getD_some, callF, ints, scal, tpO, wkPs_snoc, wkPs_tab, wkT_tab, wk1, rows, bools, tmV, tmL, Tm.op, Tm.n, Tm.args, cellsL, Tm.cells_eq, tsTerm, zeO]
  ·obtain ⟨v2, a2, hv2, ha2, hN2⟩ := next_fn xs a1 2 ha1 hl (by omega)
   have hv2 := hv2 (by omega)
   have h4 : (v : Int) = 4 := by omega
   refine rgS fun K hK => ?_
   simp (maxSteps := 2000000) (disch := omega) [h0]
   and_intros <;> try first | apply hK | omega | rfl | simp <;> omega
   refine condF (by simp [h0] <;> omega) ?_
   refine awp_seq ?_
   refine rgS fun K hK => ?_
   simp (maxSteps := 2000000) (disch := omega) [h4]
   and_intros <;> try first | apply hK | omega | rfl | simp <;> omega
   refine condF (by simp [h4] <;> omega) ?_
   refine rgL fun K hK => ?_
   simp (maxSteps := 2000000) (disch := omega) [h4]
   and_intros <;> try first | apply hK | omega | rfl | simp <;> omega
   show awp _ _ _ _
   refine condF (by simp [h4] <;> omega) ?_
   refine rgS fun K hK => ?_
   simp (maxSteps := 2000000) (disch := omega) [h4]
   and_intros <;> try first | apply hK | omega | rfl | simp <;> omega
   refine condF (by simp [h4] <;> omega) ?_
   refine awp_skip ?_
   show awp _ _ _ _
   refine awp_weak (σ' := mkS [(0, .ptr 0 0 2), (1, .t 2 (.int .i64 vars)), (2, .t 2 (.int .i64 (d + 1 : Nat))), (6, .ptr 1 0 3)] [(0, tpO 1 xs a1), (1, zeO)] 2 60 [.ptr 0 0 2, .any, .any]) ?_ ?_
   ·refine wk_list [(0, some 0), (1, some 1)] rfl ?_ ?_ ?_ ?_
    all_goals try simp [tpO, zeO, tsTerm]
   refine rgS fun K hK => ?_
   simp (maxSteps := 2000000) (disch := omega) [tpO, zeO, tsTerm]
   and_intros <;> try first | apply hK | omega | rfl | simp <;> omega
   refine awp_seq ?_
   refine rgS fun K hK => ?_
   simp (maxSteps := 2000000) (disch := omega) [tpO, zeO, tsTerm]
   (repeat' apply And.intro)
   all_goals (try omega)
   refine call_rule (caps := []) (hN2) [0] [0] 1 rfl rfl rfl rfl (by kernel_rfl) (by simp) ?_ ?_ (by simp) rfl (by simp) ⟨.inr ⟨rfl, 0, _, _, _, _, _, rfl, rfl, rfl, rfl, rfl⟩, trivial⟩ (by simp [tpO]) ?_
   ·simp [tpO]
   ·simp [tpO]
   simp (maxSteps := 2000000) (disch := omega) [tpO, zeO, tsTerm]
   (repeat' first | apply hK | apply And.intro) <;> try first | omega | rfl | (simp <;> omega)
   obtain ⟨m, hm⟩ : ∃ m : Nat, m = 2 + v2 := ⟨_, rfl⟩
   refine awp_block ?_
   refine awp_loop (fun y : List Tm × Nat => mkS [(0, .ptr 0 0 2), (1, .t 2 (.int .i64 vars)), (2, .t 2 (.int .i64 (d + 1 : Nat))), (6, .ptr 1 0 3), (7, .ptr 2 0 3), (8, .t 2 (.int .i64 ((m : Int) - (y.1.length : Int))))] [(0, tpO 1 xs y.2), (1, zeO), (2, .box 29 [.t 2 (.int .i64 3), .t 2 (.int .i64 0), .own 3 (y.1.length * 3)]), (3, fsO y.1)] 4 60 [.ptr 0 0 2, .any, .any]) (fun y => y.1.length ≤ m ∧ y.2 ≤ xs.length ∧ ∀ t ∈ y.1, t.ok = true ∧ t.sz ≤ tmB d) (fun y => m - y.1.length) ?_ ?_
   ·refine ⟨([], a2), ⟨by simp, ha2, by simp⟩, ?_⟩
    refine wk_list [(0, some 0), (1, some 1), (2, some 1000002), (3, none)] rfl ?_ ?_ ?_ ?_
    all_goals try simp [tpO, zeO, tsTerm, fsO, cellsL, hm]
   rintro ⟨acc, b⟩ ⟨hacc, hb, hall⟩
   simp only at hacc hb hall
   refine awp_seq ?_
   refine rgS fun K hK => ?_
   simp (maxSteps := 2000000) (disch := omega)
   (repeat' first | apply hK | apply And.intro) <;> try first | omega | rfl | (simp <;> omega)
   by_cases hlt : acc.length < m
   ·obtain ⟨res, H', ⟨t, b2, hok, htz, hb2, rfl, rfl⟩, hT⟩ := ih b (by omega) hb
    have hlt' : (0 : Int) < (m : Int) - (acc.length : Int) := by omega
    refine condT (by simp [hlt'] <;> omega) ?_
    refine awp_skip ?_
    show awp _ _ _ _
    refine awp_seq ?_
    refine awp_block ?_
    refine awp_RD (by kernel_rfl) (fun K hK => ?_)
    simp (maxSteps := 2000000) (disch := omega) [tpO, zeO, tsTerm, fsO]
    (repeat' apply And.intro)
    all_goals (try omega)
    refine call_ruleD (caps := []) (hT) [0] [0] 1 rfl rfl rfl rfl (by kernel_rfl) (by simp) ?_ ?_ (by simp) rfl (by simp) ⟨.inr ⟨rfl, 0, _, _, _, _, _, rfl, rfl, rfl, rfl, rfl⟩, trivial⟩ (by simp [tpO]) ?_
    ·simp [tpO, tmV]
    ·simp [tpO, tmV]
    simp (maxSteps := 2000000) (disch := omega) [tpO, zeO, tsTerm, fsO, tmV]
    and_intros <;> try first | apply hK | (show chkD _ _ = true; kernel_rfl) | omega | rfl | simp <;> omega
    show awp _ _ _ _
    refine rgL fun K hK => ?_
    simp (maxSteps := 2000000) (disch := omega)
    (repeat' first | apply hK | apply And.intro) <;> try first | omega | rfl | (simp <;> omega)
    refine ⟨(acc ++ [t], b2), ⟨by simp; omega, hb2, ?_⟩, by simp only [List.length_append, List.length_singleton]; omega, ?_⟩
    ·intro a ha
     rcases List.mem_append.1 ha with ha | ha
     ·exact hall a ha
     ·obtain rfl := List.mem_singleton.1 ha
      exact ⟨hok, htz⟩
    refine wk_list [(0, some 0), (1, some 1), (2, some 2), (3, some 3)] rfl ?_ ?_ ?_ ?_
    all_goals try simp [tpO, zeO, tsTerm, fsO, cellsL_app, cellsL, Tm.cells_eq]
    all_goals omega
   ·have hge : ¬ (0 : Int) < (m : Int) - (acc.length : Int) := by omega
    refine condF (by simp [hge] <;> omega) ?_
    refine awp_exit ?_
    show awp _ _ _ _
    refine rgS fun K hK => ?_
    simp (maxSteps := 2000000) (disch := omega) [tpO, zeO, tsTerm, fsO]
    and_intros <;> try first | apply hK | omega | rfl | simp <;> omega
    refine awp_ret ?_
    refine ⟨⟨_, _, ⟨.mk 3 0 acc, b, ok_cat (fun a ha => (hall a ha).1) (by omega), ?_, hb, .inl rfl, rfl⟩, resQ_G ?_⟩, by simp⟩
    ·have := szL_le (B := tmB d) (l := acc) fun a ha => (hall a ha).2
     have h3 : acc.length * tmB d ≤ 3 * tmB d := Nat.mul_le_mul_right _ (by omega)
     show 1 + szL acc ≤ _
     omega
    refine ⟨.inr rfl, _, [(0, some 0)], (by first | (simp; rfl) | rfl), ?_, ?_, ?_, ?_⟩
    all_goals try simp +contextual (disch := omega) [beq_gt, beq_lt, eq_lt, eq_gt, lt_t, List.getElem?_cons_succ, Option.getD_some, callF, ints, scal, tpO, wkPs_snoc, wkPs_tab, wkT_tab, wk1, rows, bools, tmV, tmL, Tm.op, Tm.n, Tm.args, tsTerm, zeO, fsO]
end Go.Proofs.YtghnmmfkckneaaaGreat.M
