/-
  Walks in my logic: Letters, the law's table, identity, all (semigrouplaw28).
-/
import Derived.Test.YtghnmmfkckneaaaGreatZsbi
import Derived.Test.YtghnmmfkckneaaaGreatZsbc
import Derived.Test.YtghnmmfkckneaaaGreatZsbj
import Derived.Test.YtghnmmfkckneaaaGreatZsba
import Derived.Test.YtghnmmfkckneaaaGreatZsaq
namespace Go.Proofs.YtghnmmfkckneaaaGreat.M
open Go.RowKit
set_option linter.unusedVariables false
set_option maxRecDepth 100000
set_option maxHeartbeats 32000000
attribute [local simp] ints rows scal wr64 wr8
set_option linter.unusedSimpArgs false

theorem letters_fn (xs : List Int) (a : Nat) (ha : a ≤ xs.length) (hl : xs.length ≤ 80) : ∃ L b : Nat, (L = 1 ∨ L = 2) ∧ b ≤ xs.length ∧ FnS Tryz.prog 33 [.ptr 0 0 2] [tpO 1 xs a] (.t 2 (.int .i64 (L : Nat))) [tpO 1 xs b] := by
 obtain ⟨v, b, hv, hb, hN⟩ := next_fn xs a 8 ha hl (by omega)
 have hv := hv (by omega)
 obtain ⟨L, hL, hLv⟩ : ∃ L : Nat, (L = 1 ∨ L = 2) ∧ 2 - (v : Int).tdiv 7 = (L : Int) := by
  by_cases h : v = 7
  ·subst h; exact ⟨1, .inl rfl, by decide⟩
  ·refine ⟨2, .inr rfl, ?_⟩
   rw [Int.tdiv_eq_zero_of_lt (by omega) (by omega)]; rfl
 have hd : (v : Int).tdiv 7 = 2 - (L : Int) := by omega
 refine ⟨L, b, hL, hb, ?_⟩
 refine fn_intro Tryz.func33 rfl (by simp [Tryz.f33]) ?_
 rw [show Tryz.f33.ntmps = 7 from rfl, show Tryz.f33.results = #[.tmp 2] from rfl]
 refine rgS fun K hK => ?_
 simp (maxSteps := 2000000) (disch := omega)
 and_intros <;> try first | apply hK | omega | rfl | simp <;> omega
 refine rgS fun K hK => ?_
 simp (maxSteps := 2000000) (disch := omega)
 (repeat' apply And.intro)
 all_goals (try omega)
 refine call_rule (caps := []) (hN) [0] [0] 1 rfl rfl rfl rfl (by kernel_rfl) (by simp) ?_ ?_ (by simp) rfl (by simp) ⟨.inr ⟨rfl, 0, _, _, _, _, _, rfl, rfl, rfl, rfl, rfl⟩, trivial⟩ (by simp [tpO]) ?_
 ·simp [tpO]
 ·simp [tpO]
 simp (maxSteps := 2000000) (disch := omega) [tpO, hd]
 and_intros <;> try first | apply hK | omega | rfl | simp <;> omega
 refine awp_ret ?_
 refine ⟨⟨.inr rfl, _, [(0, some 0)], (by first | rfl | (simp [tpO]; rfl)), ?_, ?_, ?_, ?_⟩, ?_⟩
 all_goals try simp [tpO]
 omega
def z3 : List (List Int) := [[0, 1, 2], [1, 2, 0], [2, 0, 1]]
def TbH (most : Nat) (tb : List (List Int)) : Prop := tb = z3 ∨ ∃ n gs els pre last wds right, GnOK n gs ∧ PrI n gs els pre last wds right els.length ∧ els.length ≤ most ∧ tb = tblR right wds els.length
theorem PrI.id0 {n : Nat} {gs els : List (List Int)} {pre last : List Int} {wds : List (List Nat)} {right : List (List Int)} (h : PrI n gs els pre last wds right els.length) (hg : ∀ g ∈ gs, TrN n g) : isId (tabOf (tblR right wds els.length)) els.length 0 = true := by
 unfold isId
 rw [List.all_eq_true]
 intro x hx
 have hx : x < els.length := List.mem_range.1 hx
 obtain ⟨_, _, t1, _⟩ := h.wl' hx
 have h0 := h.n0
 have e0 : els[0] = idL n := by have := h.en.one.1; rw [List.getElem?_eq_getElem h0] at this; exact Option.some.inj this
 have e1 := h.elm hg h0 hx
 have e2 := h.elm hg hx h0
 rw [e0] at e1 e2
 rw [compL_id t1] at e1
 rw [compL_idr t1] at e2
 have i1 := h.en.nd _ x _ e1 (List.getElem?_eq_getElem hx)
 have i2 := h.en.nd _ x _ e2 (List.getElem?_eq_getElem hx)
 rw [i1, i2]
 simp
theorem idI_0 {T : Nat → Nat → Nat} {n : Nat} (hn : 0 < n) (h : isId T n 0 = true) : idI T n = 0 := by
 unfold idI
 obtain ⟨m, rfl⟩ : ∃ m, n = m + 1 := ⟨n - 1, by omega⟩
 rw [idG_succ, if_pos h]; rfl
theorem TbH.ok {most : Nat} {tb : List (List Int)} (h : TbH most tb) (h3 : 3 ≤ most) (hm : most ≤ 400) : vErr tb = 0 ∧ idI (tabOf tb) tb.length = 0 ∧ 0 < tb.length ∧ tb.length ≤ most := by
 rcases h with rfl | ⟨n, gs, els, pre, last, wds, right, h1, h2, h4, rfl⟩
 ·have hl : z3.length = 3 := rfl
  refine ⟨vErr_ok (shape_good (by decide) (by decide) ?_) ?_, ?_, by decide, by omega⟩
  ·intro r hr
   have hr : r < 3 := hr
   rcases (by omega : r = 0 ∨ r = 1 ∨ r = 2) with rfl | rfl | rfl
   all_goals exact ⟨rfl, fun i hi => by
    have hi : i < 3 := hi
    rcases (by omega : i = 0 ∨ i = 1 ∨ i = 2) with rfl | rfl | rfl <;> decide⟩
  ·intro x y z hx hy hz
   have hx : x < 3 := hx
   have hy : y < 3 := hy
   have hz : z < 3 := hz
   rcases (by omega : x = 0 ∨ x = 1 ∨ x = 2) with rfl | rfl | rfl <;> rcases (by omega : y = 0 ∨ y = 1 ∨ y = 2) with rfl | rfl | rfl <;> rcases (by omega : z = 0 ∨ z = 1 ∨ z = 2) with rfl | rfl | rfl <;> decide
  ·exact idI_0 (by decide) (by decide)
 ·rw [tblR_len]
  exact ⟨h2.vE h1.tr (by omega), idI_0 h2.n0 (h2.id0 h1.tr), h2.n0, h4⟩
theorem table28_fn (xs : List Int) (a most : Nat) (ha : a ≤ xs.length) (hl : xs.length ≤ 80) (hm : most ≤ 400) : ∃ res H', (∃ tb b, TbH most tb ∧ b ≤ xs.length ∧ res = .t 2 (rows tb) ∧ H' = [tpO 1 xs b]) ∧
  FnS Tryz.prog 7 [.ptr 0 0 2, .t 2 (.int .i64 most)] [tpO 1 xs a] res H' := by
 obtain ⟨L, a1, hL, ha1, hLe⟩ := letters_fn xs a ha hl
 obtain ⟨res1, H1, ⟨n, s, b, bs, nxt, hn, hb, hD, rfl, rfl⟩, hany⟩ := any_fn xs a1 L 3 ha1 hl hL (by omega) (by omega)
 obtain ⟨res2, hO, hof⟩ := Of_fn hD (by omega) (by omega) (by omega)
 refine fn_introGE Tryz.func7 rfl (by simp [Tryz.f7]) ?_
 rw [show Tryz.f7.ntmps = 30 from rfl, show Tryz.f7.results = #[.tmp 4] from rfl]
 refine rgS fun K hK => ?_
 simp (maxSteps := 2000000) (disch := omega)
 (repeat' first | apply hK | apply And.intro) <;> try first | omega | rfl | (simp <;> omega)
 rcases hO with rfl | ⟨n', gs, els, pre, last, wds, right, ac, pl, e1, e2, e3, e4, e5, rfl⟩
 ·refine rgS fun K hK => ?_
  simp (maxSteps := 2000000) (disch := omega)
  (repeat' apply And.intro)
  all_goals (try omega)
  refine call_rule (caps := []) (hLe) [0] [0] 1 rfl rfl rfl rfl (by kernel_rfl) (by simp) ?_ ?_ (by simp) rfl (by simp) ⟨.inr ⟨rfl, 0, _, _, _, _, _, rfl, rfl, rfl, rfl, rfl⟩, trivial⟩ (by simp [tpO]) ?_
  ·simp [tpO]
  ·simp [tpO]
  simp (maxSteps := 2000000) (disch := omega) [tpO]
  (repeat' apply And.intro)
  all_goals (try omega)
  refine call_rule (caps := []) (hany) [0] [0] 1 rfl rfl rfl rfl (by kernel_rfl) (by simp) ?_ ?_ (by simp) rfl (by simp) ⟨.inr ⟨rfl, 0, _, _, _, _, _, rfl, rfl, rfl, rfl, rfl⟩, trivial⟩ (by simp [tpO]) ?_
  ·simp [tpO, dfT]
  ·simp [tpO, dfT]
  simp (maxSteps := 2000000) (disch := omega) [dfT, bools, tpO]
  (repeat' apply And.intro)
  all_goals (try omega)
  refine callO (hof) rfl rfl rfl rfl (by kernel_rfl) (by simp) ?_ ?_
  ·simp [dfT, bools]
  simp (maxSteps := 2000000) (disch := omega) [synZ]
  and_intros <;> try first | apply hK | omega | rfl | simp <;> omega
  refine awp_seq ?_
  refine rgS fun K hK => ?_
  simp (maxSteps := 2000000) (disch := omega)
  and_intros <;> try first | apply hK | omega | rfl | simp <;> omega
  refine condT (by simp <;> omega) ?_
  refine rgS fun K hK => ?_
  simp (maxSteps := 2000000) (disch := omega) [rng_l3]
  and_intros <;> try first | apply hK | omega | rfl | simp <;> omega
  refine awp_ret ?_
  refine ⟨⟨_, _, ⟨z3, b, .inl rfl, hb, rfl, rfl⟩, resQ_G ?_⟩, by simp⟩
  refine ⟨.inr rfl, _, [(0, some 0)], (by first | (simp; rfl) | rfl), ?_, ?_, ?_, ?_⟩
  all_goals try simp +contextual (disch := omega) [beq_gt, beq_lt, eq_lt, eq_gt, lt_t, List.getElem?_cons_succ, Option.getD_some, callF, ints, scal, tpO, wkPs_snoc, wkPs_tab, wkT_tab, wk1, rows, bools, z3, wkT_cons, wkT_nil]
 by_cases h27 : most < els.length
 ·have d1 : decide ((els.length : Int) > (most : Int)) = true := by simp; omega
  refine rgS fun K hK => ?_
  simp (maxSteps := 2000000) (disch := omega)
  (repeat' apply And.intro)
  all_goals (try omega)
  refine call_rule (caps := []) (hLe) [0] [0] 1 rfl rfl rfl rfl (by kernel_rfl) (by simp) ?_ ?_ (by simp) rfl (by simp) ⟨.inr ⟨rfl, 0, _, _, _, _, _, rfl, rfl, rfl, rfl, rfl⟩, trivial⟩ (by simp [tpO]) ?_
  ·simp [tpO]
  ·simp [tpO]
  simp (maxSteps := 2000000) (disch := omega) [tpO]
  (repeat' apply And.intro)
  all_goals (try omega)
  refine call_rule (caps := []) (hany) [0] [0] 1 rfl rfl rfl rfl (by kernel_rfl) (by simp) ?_ ?_ (by simp) rfl (by simp) ⟨.inr ⟨rfl, 0, _, _, _, _, _, rfl, rfl, rfl, rfl, rfl⟩, trivial⟩ (by simp [tpO]) ?_
  ·simp [tpO, dfT]
  ·simp [tpO, dfT]
  simp (maxSteps := 2000000) (disch := omega) [dfT, bools, tpO]
  (repeat' apply And.intro)
  all_goals (try omega)
  refine callO (hof) rfl rfl rfl rfl (by kernel_rfl) (by simp) ?_ ?_
  ·simp [dfT, bools]
  simp (maxSteps := 2000000) (disch := omega) [synT, bools]
  and_intros <;> try first | apply hK | omega | rfl | simp <;> omega
  refine awp_seq ?_
  refine rgS fun K hK => ?_
  simp (maxSteps := 2000000) (disch := omega) [d1]
  and_intros <;> try first | apply hK | omega | rfl | simp <;> omega
  refine condT (by simp [d1, h27] <;> omega) ?_
  refine rgS fun K hK => ?_
  simp (maxSteps := 2000000) (disch := omega) [rng_l3]
  and_intros <;> try first | apply hK | omega | rfl | simp <;> omega
  refine awp_ret ?_
  refine ⟨⟨_, _, ⟨z3, b, .inl rfl, hb, rfl, rfl⟩, resQ_G ?_⟩, by simp⟩
  refine ⟨.inr rfl, _, [(0, some 0)], (by first | (simp; rfl) | rfl), ?_, ?_, ?_, ?_⟩
  all_goals try simp +contextual (disch := omega) [beq_gt, beq_lt, eq_lt, eq_gt, lt_t, List.getElem?_cons_succ, Option.getD_some, callF, ints, scal, tpO, wkPs_snoc, wkPs_tab, wkT_tab, wk1, rows, bools, z3, wkT_cons, wkT_nil]
 ·have d1 : decide ((els.length : Int) > (most : Int)) = false := by simp; omega
  refine rgS fun K hK => ?_
  simp (maxSteps := 2000000) (disch := omega)
  (repeat' apply And.intro)
  all_goals (try omega)
  refine call_rule (caps := []) (hLe) [0] [0] 1 rfl rfl rfl rfl (by kernel_rfl) (by simp) ?_ ?_ (by simp) rfl (by simp) ⟨.inr ⟨rfl, 0, _, _, _, _, _, rfl, rfl, rfl, rfl, rfl⟩, trivial⟩ (by simp [tpO]) ?_
  ·simp [tpO]
  ·simp [tpO]
  simp (maxSteps := 2000000) (disch := omega) [tpO]
  (repeat' apply And.intro)
  all_goals (try omega)
  refine call_rule (caps := []) (hany) [0] [0] 1 rfl rfl rfl rfl (by kernel_rfl) (by simp) ?_ ?_ (by simp) rfl (by simp) ⟨.inr ⟨rfl, 0, _, _, _, _, _, rfl, rfl, rfl, rfl, rfl⟩, trivial⟩ (by simp [tpO]) ?_
  ·simp [tpO, dfT]
  ·simp [tpO, dfT]
  simp (maxSteps := 2000000) (disch := omega) [dfT, bools, tpO]
  (repeat' apply And.intro)
  all_goals (try omega)
  refine callO (hof) rfl rfl rfl rfl (by kernel_rfl) (by simp) ?_ ?_
  ·simp [dfT, bools]
  simp (maxSteps := 2000000) (disch := omega) [synT, bools]
  and_intros <;> try first | apply hK | omega | rfl | simp <;> omega
  refine awp_seq ?_
  refine rgS fun K hK => ?_
  simp (maxSteps := 2000000) (disch := omega) [d1]
  and_intros <;> try first | apply hK | omega | rfl | simp <;> omega
  refine condF (by simp [d1, h27] <;> omega) ?_
  refine awp_skip ?_
  show awp _ _ _ _
  refine rgS fun K hK => ?_
  simp (maxSteps := 2000000) (disch := omega)
  and_intros <;> try first | apply hK | omega | rfl | simp <;> omega
  refine awp_ret ?_
  refine ⟨⟨_, _, ⟨_, b, .inr ⟨n', gs, els, pre, last, wds, right, e2, e3, by omega, rfl⟩, hb, rfl, rfl⟩, resQ_G ?_⟩, by simp⟩
  refine ⟨.inr rfl, _, [(0, some 0)], (by first | (simp; rfl) | rfl), ?_, ?_, ?_, ?_⟩
  all_goals try simp +contextual (disch := omega) [beq_gt, beq_lt, eq_lt, eq_gt, lt_t, List.getElem?_cons_succ, Option.getD_some, callF, ints, scal, tpO, wkPs_snoc, wkPs_tab, wkT_tab, wk1, rows, bools]
theorem identity28_fn (xs : List Int) (a : Nat) (ha : a ≤ xs.length) (hl : xs.length ≤ 80) : ∃ res H', (∃ (u v : Tm) (b : Nat), u.val = true ∧ v.val = true ∧ b ≤ xs.length ∧ res = idV 2 u v ∧ H' = [tpO 1 xs b]) ∧
  FnS Tryz.prog 8 [.ptr 0 0 2] [tpO 1 xs a] res H' := by
 obtain ⟨n, a1, hn, ha1, hN⟩ := next_fn xs a 3 ha hl (by omega)
 have hn := hn (by omega)
 obtain ⟨res1, H1, ⟨u, a2, hok1, hz1, ha2, rfl, rfl⟩, hT1⟩ := term_made xs hl (1 + n) (by omega) (by omega) 2 a1 (by omega) ha1
 obtain ⟨res2, H2, ⟨v, a3, hok2, hz2, ha3, rfl, rfl⟩, hT2⟩ := term_made xs hl (1 + n) (by omega) (by omega) 2 a2 (by omega) ha2
 have hz1 : u.sz ≤ 13 := hz1
 have hz2 : v.sz ≤ 13 := hz2
 refine fn_introGE Tryz.func8 rfl (by simp [Tryz.f8]) ?_
 rw [show Tryz.f8.ntmps = 14 from rfl, show Tryz.f8.results = #[.cell 2 31] from rfl]
 refine rgS fun K hK => ?_
 simp (maxSteps := 2000000) (disch := omega)
 and_intros <;> try first | apply hK | omega | rfl | simp <;> omega
 refine rgS fun K hK => ?_
 simp (maxSteps := 2000000) (disch := omega)
 (repeat' apply And.intro)
 all_goals (try omega)
 refine call_rule (caps := []) (hN) [0] [0] 1 rfl rfl rfl rfl (by kernel_rfl) (by simp) ?_ ?_ (by simp) rfl (by simp) ⟨.inr ⟨rfl, 0, _, _, _, _, _, rfl, rfl, rfl, rfl, rfl⟩, trivial⟩ (by simp [tpO]) ?_
 ·simp [tpO]
 ·simp [tpO]
 simp (maxSteps := 2000000) (disch := omega) [tpO, tsIdent]
 and_intros <;> try first | apply hK | omega | rfl | simp <;> omega
 refine rgS fun K hK => ?_
 simp (maxSteps := 2000000) (disch := omega) [tsIdent]
 (repeat' apply And.intro)
 all_goals (try omega)
 refine call_rule (caps := []) (hT1) [0] [0] 1 rfl rfl rfl rfl (by kernel_rfl) (by simp) ?_ ?_ (by simp) rfl (by simp) ⟨.inr ⟨rfl, 0, _, _, _, _, _, rfl, rfl, rfl, rfl, rfl⟩, trivial⟩ (by simp [tpO]) ?_
 ·simp [tpO, tmV]
 ·simp [tpO, tmV]
 simp (maxSteps := 2000000) (disch := omega) [tpO, tsIdent, tmV]
 (repeat' apply And.intro)
 all_goals (try omega)
 refine call_rule (caps := []) (hT2) [0] [0] 1 rfl rfl rfl rfl (by kernel_rfl) (by simp) ?_ ?_ (by simp) rfl (by simp) ⟨.inr ⟨rfl, 0, _, _, _, _, _, rfl, rfl, rfl, rfl, rfl⟩, trivial⟩ (by simp [tpO]) ?_
 ·simp [tpO, tmV]
 ·simp [tpO, tmV]
 simp (maxSteps := 2000000) (disch := omega) [tpO, tsIdent, tmV]
 and_intros <;> try first | apply hK | omega | rfl | simp <;> omega
 refine awp_ret ?_
 refine ⟨⟨_, _, ⟨u, v, a3, ?_, ?_, ha3, rfl, rfl⟩, resQ_G ?_⟩, by simp⟩
 ·unfold Tm.val; rw [hok1]; simp; omega
 ·unfold Tm.val; rw [hok2]; simp; omega
 refine ⟨.inr rfl, _, [(0, some 0)], (by first | (simp; rfl) | rfl), ?_, ?_, ?_, ?_⟩
 all_goals try simp +contextual (disch := omega) [beq_gt, beq_lt, eq_lt, eq_gt, lt_t, List.getElem?_cons_succ, Option.getD_some, callF, ints, scal, tpO, wkPs_snoc, wkPs_tab, wkT_tab, wk1, rows, bools, idV, tmV, tsIdent]
def allL (n : Nat) : List Int := tab n fun i => (i : Int)
theorem all28_fn (tb : List (List Int)) (h : tb.length ≤ 1000) : FnA Tryz.prog 10 [.t 0 (rows tb)] (.t 2 (ints (allL tb.length))) := by
 have hD := discrete_fn tb.length (by omega)
 refine fn_intro Tryz.func10 rfl (by simp [Tryz.f10]) ?_
 rw [show Tryz.f10.ntmps = 6 from rfl, show Tryz.f10.results = #[.tmp 2] from rfl]
 refine rgS fun K hK => ?_
 simp (maxSteps := 2000000) (disch := omega)
 and_intros <;> try first | apply hK | omega | rfl | simp <;> omega
 refine rgS fun K hK => ?_
 simp (maxSteps := 2000000) (disch := omega)
 (repeat' apply And.intro)
 all_goals (try omega)
 refine callO (hD) rfl rfl rfl rfl (by kernel_rfl) (by simp) ?_ ?_
 ·simp
 simp (maxSteps := 2000000) (disch := omega)
 and_intros <;> try first | apply hK | omega | rfl | simp <;> omega
 refine awp_ret ?_
 refine ⟨⟨.inr rfl, _, [], rfl, trivial, trivial, by simp [allL], ?_⟩, by simp [allL]⟩
 simp [allL]
end Go.Proofs.YtghnmmfkckneaaaGreat.M
