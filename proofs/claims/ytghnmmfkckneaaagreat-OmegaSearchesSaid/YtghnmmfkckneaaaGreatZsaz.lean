/-
  Walks in my logic: loose, may, Ranges of the reference of layer 28, where the search is valid.
-/
import Derived.Test.YtghnmmfkckneaaaGreatZsay
import Derived.Test.YtghnmmfkckneaaaGreatZsaq
import Derived.Test.YtghnmmfkckneaaaGreatZsar
namespace Go.Proofs.YtghnmmfkckneaaaGreat.M
open Go.RowKit
set_option linter.unusedVariables false
set_option maxRecDepth 100000
set_option maxHeartbeats 32000000
attribute [local simp] ints rows scal wr64 wr8
set_option linter.unusedSimpArgs false

theorem els_eq (i : Nat) (p : Int × Int) (t : Tm) : t.els i p = ((decide (t.op = 2) && decide (t.n.toNat = i) && !(decide (p.1 = 4) && decide (p.2 = 0))) || elsL i (t.op, t.n) t.args) := by
 obtain ⟨o, n, l⟩ := t
 rw [Tm.els]
 rfl
theorem occ_eq (i : Nat) (t : Tm) : t.occ i = ((decide (t.op = 2) && decide (t.n.toNat = i)) || occL i t.args) := by
 obtain ⟨o, n, l⟩ := t
 rw [Tm.occ]
 rfl
theorem els_top {i : Nat} {p : Int × Int} {t : Tm} (h : ¬ (p.1 = 4 ∧ p.2 = 0 ∧ t.op = 2 ∧ t.n.toNat = i)) : t.els i p = t.els i (0, 0) := by
 rw [els_eq, els_eq]
 congr 1
 by_cases h1 : t.op = 2 <;> by_cases h2 : t.n.toNat = i <;> by_cases h3 : p.1 = 4 <;> by_cases h4 : p.2 = 0 <;> simp [h1, h2, h3, h4]
 exact h ⟨h3, h4, h1, h2⟩
def lsL (i : Nat) : List Tm → Bool
 | [] => false
 | a :: r => a.els i (0, 0) || lsL i r
theorem lsL_take {i : Nat} : ∀ {l : List Tm} {k : Nat} (h : k < l.length), lsL i (l.take (k + 1)) = (lsL i (l.take k) || l[k].els i (0, 0))
 | a :: l, 0, h => by show (a.els i (0, 0) || lsL i []) = (lsL i [] || a.els i (0, 0)); rw [lsL]; simp
 | a :: l, k + 1, h => by
  show (a.els i (0, 0) || lsL i (l.take (k + 1))) = ((a.els i (0, 0) || lsL i (l.take k)) || (l[k]'(by simpa using h)).els i (0, 0))
  rw [lsL_take (by simpa using h), Bool.or_assoc]
theorem occL_take {i : Nat} : ∀ {l : List Tm} {k : Nat} (h : k < l.length), occL i (l.take (k + 1)) = (occL i (l.take k) || l[k].occ i)
 | a :: l, 0, h => by show (a.occ i || occL i []) = (occL i [] || a.occ i); rw [occL]; simp
 | a :: l, k + 1, h => by
  show (a.occ i || occL i (l.take (k + 1))) = ((a.occ i || occL i (l.take k)) || (l[k]'(by simpa using h)).occ i)
  rw [occL_take (by simpa using h), Bool.or_assoc]
theorem elsL_ls {i : Nat} {p : Int × Int} : ∀ {l : List Tm}, (∀ a ∈ l, ¬ (p.1 = 4 ∧ p.2 = 0 ∧ a.op = 2 ∧ a.n.toNat = i)) → elsL i p l = lsL i l
 | [], _ => by rw [elsL, lsL]
 | a :: l, h => by rw [elsL, lsL, els_top (h a (by simp)), elsL_ls fun b hb => h b (by simp [hb])]
theorem loose_fn (v : Nat) (hv : v ≤ 1000) : ∀ t : Tm, t.ok = true → t.sz ≤ 100000 → FnA Tryz.prog 41 [tmV 0 t, .t 2 (.int .i64 (v : Nat))] (.tup [.t 2 (.bool (t.els v (0, 0))), .t 2 (.bool (t.occ v))]) := by
 intro t
 induction hsz : t.sz using Nat.strongRecOn generalizing t with
 | _ q ih =>
 intro ho hq
 have hsl := szL_ge t.args
 have hse := sz_eq t
 obtain ⟨hw, ha⟩ := ok_parts ho
 have hels := els_eq v (0, 0) t
 have hocc := occ_eq v t
 refine fn_intro Tryz.func41 rfl (by simp [Tryz.f41]) ?_
 rw [show Tryz.f41.ntmps = 68 from rfl, show Tryz.f41.results = #[.tmp 4, .tmp 5] from rfl]
 refine rgS fun K hK => ?_
 simp (disch := omega) [tmV]
 and_intros <;> try first | apply hK | omega | rfl | simp <;> omega
 refine awp_weak (σ' := mkS [(1, .t 2 (.int .i64 (v : Nat))), (2, .ptr 0 0 3), (4, .t 2 (.bool false)), (5, .t 2 (.bool false))] [(0, teO' t)] 1 68 [.any, .any]) ?_ ?_
 ·refine wk_list [(0, some 0)] rfl ?_ ?_ ?_ ?_
  all_goals try simp [tmV, teO']
 by_cases c1 : t.op = 2 ∧ t.n = (v : Int)
 ·obtain ⟨c1, c2⟩ := c1
  have e1 : t.els v (0, 0) = true := by rw [hels, c1, c2]; simp
  have e2 : t.occ v = true := by rw [hocc, c1, c2]; simp
  refine awp_seq ?_
  refine rgS fun K hK => ?_
  simp (disch := omega) [teO', tsTerm, c1, c2]
  and_intros <;> try first | apply hK | omega | rfl | simp <;> omega
  refine condT (by simp <;> omega) ?_
  refine rgS fun K hK => ?_
  simp (disch := omega)
  and_intros <;> try first | apply hK | omega | rfl | simp <;> omega
  refine awp_ret ?_
  rw [e1, e2]
  refine ⟨⟨.inr rfl, _, [], rfl, trivial, trivial, by simp [tmV], ?_⟩, by simp [tmV]⟩
  simp [tmV]
 refine awp_seq (awp_mono (Q := fun e σ => e = Exit.normal ∧ Wk σ (mkS [(1, .t 2 (.int .i64 (v : Nat))), (2, .ptr 0 0 3), (4, .t 2 (.bool false)), (5, .t 2 (.bool false))] [(0, teO' t)] 1 68 [.any, .any])) ?_ ?_)
 ·by_cases c2 : t.op = 2
  ·have c3 : (t.n == (v : Int)) = false := by
    simp only [beq_eq_false_iff_ne]
    exact fun h => c1 ⟨c2, h⟩
   refine rgS fun K hK => ?_
   simp (disch := omega) [teO', tsTerm, c2, c3]
   and_intros <;> try first | apply hK | omega | rfl | simp <;> omega
   refine condF (by simp [c3] <;> omega) ?_
   refine awp_skip ?_
   refine ⟨rfl, ?_⟩
   refine wk_list [(0, some 0)] rfl ?_ ?_ ?_ ?_
   all_goals try simp [teO', c2]
  ·have c3 : (t.op == 2) = false := by simpa using c2
   refine rgS fun K hK => ?_
   simp (disch := omega) [teO', tsTerm, c3]
   and_intros <;> try first | apply hK | omega | rfl | simp <;> omega
   refine condF (by simp [c3] <;> omega) ?_
   refine awp_skip ?_
   refine ⟨rfl, ?_⟩
   refine wk_list [(0, some 0)] rfl ?_ ?_ ?_ ?_
   all_goals try simp [teO']
 rintro e σ ⟨rfl, hwk⟩
 refine awp_weak hwk ?_
 clear hwk
 show awp _ _ _ _
 by_cases c4 : t.op = 4 ∧ t.n = 0 ∧ ∃ a, t.args = [a] ∧ a.op = 2 ∧ a.n = (v : Int)
 ·obtain ⟨c4, c5, a, e, c6, c7⟩ := c4
  have hok := ha a (by rw [e]; simp)
  have hargs : a.args = [] := by rcases wf_cases (ok_parts hok).1 with ⟨h, -, -⟩ | ⟨h, -, -, h2⟩ | ⟨h, -, -⟩ | ⟨h, -⟩ <;> first | exact h2 | omega
  have e1 : t.els v (0, 0) = false := by
   rw [hels, c4, c5, e, elsL, elsL, els_eq, c6, c7, hargs, elsL]; simp
  have e2 : t.occ v = true := by rw [hocc, c4, e, occL, occL, occ_eq, c6, c7]; simp
  refine awp_seq ?_
  refine rgS fun K hK => ?_
  simp (disch := omega) [teO', tsTerm, c4, c5, e, cellsL, Tm.cells_eq, c6, c7]
  and_intros <;> try first | apply hK | omega | rfl | simp <;> omega
  refine condT (by simp <;> omega) ?_
  refine rgS fun K hK => ?_
  simp (disch := omega)
  and_intros <;> try first | apply hK | omega | rfl | simp <;> omega
  refine awp_ret ?_
  rw [e1, e2]
  refine ⟨⟨.inr rfl, _, [], rfl, trivial, trivial, by simp [tmV], ?_⟩, by simp [tmV]⟩
  simp [tmV]
 have hfin : t.els v (0, 0) = lsL v t.args ∧ t.occ v = occL v t.args := by
  have h0 : (decide (t.op = 2) && decide (t.n.toNat = v)) = false := by
   by_cases h : t.op = 2
   ·have hn0 : 0 ≤ t.n := by rcases wf_cases hw with ⟨h, -, -⟩ | ⟨h, h2, -, -⟩ | ⟨h, -, -⟩ | ⟨h, -⟩ <;> omega
    have : ¬ t.n.toNat = v := fun h2 => c1 ⟨h, by omega⟩
    simp [this]
   ·simp [h]
  refine ⟨?_, by rw [hocc, h0, Bool.false_or]⟩
  rw [hels, h0, Bool.false_and, Bool.false_or]
  refine elsL_ls fun a hm h => c4 ?_
  obtain ⟨h1, h2, h3, h4⟩ := h
  rcases wf_cases hw with ⟨h, -, -⟩ | ⟨h, -, -, -⟩ | ⟨h, -, -⟩ | ⟨h, -, -, b, e⟩
  ·simp only at h1; omega
  ·simp only at h1; omega
  ·simp only at h1; omega
  ·rw [e] at hm
   obtain rfl := List.mem_singleton.1 hm
   have hok := ha a (by rw [e]; simp)
   have hn0 : 0 ≤ a.n := by rcases wf_cases (ok_parts hok).1 with ⟨h, -, -⟩ | ⟨h, h2, -, -⟩ | ⟨h, -, -⟩ | ⟨h, -⟩ <;> omega
   exact ⟨h1, h2, a, e, h3, by omega⟩
 refine awp_seq (awp_mono (Q := fun e σ => e = Exit.normal ∧ Wk σ (mkS [(1, .t 2 (.int .i64 (v : Nat))), (2, .ptr 0 0 3), (4, .t 2 (.bool false)), (5, .t 2 (.bool false))] [(0, teO' t)] 1 68 [.any, .any])) ?_ ?_)
 ·by_cases d1 : t.op = 4
  case neg =>
   have d1' : (t.op == 4) = false := by simpa using d1
   refine rgS fun K hK => ?_
   simp (disch := omega) [teO', tsTerm, d1']
   and_intros <;> try first | apply hK | omega | rfl | simp <;> omega
   refine condF (by simp [d1'] <;> omega) ?_
   refine awp_skip ?_
   refine ⟨rfl, ?_⟩
   refine wk_list [(0, some 0)] rfl ?_ ?_ ?_ ?_
   all_goals try simp [teO']
  by_cases d2 : t.n = 0
  case neg =>
   have d2' : (t.n == 0) = false := by simpa using d2
   refine rgS fun K hK => ?_
   simp (disch := omega) [teO', tsTerm, d1, d2']
   and_intros <;> try first | apply hK | omega | rfl | simp <;> omega
   refine condF (by simp [d2'] <;> omega) ?_
   refine awp_skip ?_
   refine ⟨rfl, ?_⟩
   refine wk_list [(0, some 0)] rfl ?_ ?_ ?_ ?_
   all_goals try simp [teO', d1]
  obtain ⟨a, e⟩ : ∃ a, t.args = [a] := by
   rcases wf_cases hw with ⟨h, -, -⟩ | ⟨h, -, -, -⟩ | ⟨h, -, -⟩ | ⟨h, -, -, b, e⟩
   ·omega
   ·omega
   ·omega
   ·exact ⟨b, e⟩
  by_cases d3 : a.op = 2
  case neg =>
   have d3' : (a.op == 2) = false := by simpa using d3
   refine rgS fun K hK => ?_
   simp (disch := omega) [teO', tsTerm, d1, d2, e, cellsL, Tm.cells_eq, d3']
   and_intros <;> try first | apply hK | omega | rfl | simp <;> omega
   refine condF (by simp [d3'] <;> omega) ?_
   refine awp_skip ?_
   refine ⟨rfl, ?_⟩
   refine wk_list [(0, some 0)] rfl ?_ ?_ ?_ ?_
   all_goals try simp [teO', d1, d2, e, cellsL, Tm.cells_eq]
  have d4' : (a.n == (v : Int)) = false := by
   simp only [beq_eq_false_iff_ne]
   exact fun h => c4 ⟨d1, d2, a, e, d3, h⟩
  refine rgS fun K hK => ?_
  simp (disch := omega) [teO', tsTerm, d1, d2, e, cellsL, Tm.cells_eq, d3, d4']
  and_intros <;> try first | apply hK | omega | rfl | simp <;> omega
  refine condF (by simp [d4'] <;> omega) ?_
  refine awp_skip ?_
  refine ⟨rfl, ?_⟩
  refine wk_list [(0, some 0)] rfl ?_ ?_ ?_ ?_
  all_goals try simp [teO', d1, d2, e, cellsL, Tm.cells_eq, d3]
 rintro e σ ⟨rfl, hwk⟩
 refine awp_weak hwk ?_
 clear hwk
 show awp _ _ _ _
 rw [hfin.1, hfin.2]
 refine awp_seq ?_
 refine rgS fun K hK => ?_
 simp (disch := omega) [teO', tsTerm]
 and_intros <;> try first | apply hK | omega | rfl | simp <;> omega
 refine awp_block ?_
 refine awp_loop (fun k : Nat => mkS [(1, .t 2 (.int .i64 (v : Nat))), (4, .t 2 (.bool (lsL v (t.args.take k)))), (5, .t 2 (.bool (occL v (t.args.take k)))), (45, .t 0 (.sl 3 (cellsL t.args))), (46, .t 2 (.int .i64 t.args.length)), (47, .t 2 (.int .i64 k))] [] 0 68 [.any, .any]) (fun k => k ≤ t.args.length) (fun k => t.args.length - k) ?_ ?_
 ·refine ⟨0, by omega, ?_⟩
  refine wk_list [] rfl ?_ ?_ ?_ ?_
  all_goals try simp [lsL, occL]
 intro k hk
 obtain ⟨c, hc⟩ : ∃ c, c = lsL v (t.args.take k) := ⟨_, rfl⟩
 obtain ⟨d, hd⟩ : ∃ d, d = occL v (t.args.take k) := ⟨_, rfl⟩
 rw [← hc, ← hd]
 refine rgS fun K hK => ?_
 simp (disch := omega)
 and_intros <;> try first | apply hK | omega | rfl | simp <;> omega
 refine awp_seq ?_
 by_cases hkl : k < t.args.length
 ·obtain ⟨a, hak⟩ : ∃ a, a = t.args[k] := ⟨_, rfl⟩
  have hcut := cellsL_cut t.args k hkl
  rw [← hak, Tm.cells_eq] at hcut
  have ham : a ∈ t.args := by rw [hak]; exact List.getElem_mem hkl
  have hlt := sz_arg ham
  have hA := ih a.sz (by omega) a rfl (ha a ham) (by omega)
  have hs1 := lsL_take (i := v) hkl
  have hs2 := occL_take (i := v) hkl
  rw [← hak, ← hc] at hs1
  rw [← hak, ← hd] at hs2
  refine condT (by simp [hkl] <;> omega) ?_
  refine awp_skip ?_
  show awp _ _ _ _
  refine awp_seq ?_
  refine awp_block ?_
  refine rgS fun K hK => ?_
  simp (disch := omega) [hcut, hkl, tsTerm]
  and_intros <;> try first | apply hK | omega | rfl | simp <;> omega
  refine rgS fun K hK => ?_
  simp (disch := omega) [tsTerm]
  (repeat' apply And.intro)
  all_goals (try omega)
  refine callO (hA) rfl rfl rfl rfl (by kernel_rfl) (by simp) ?_ ?_
  ·simp [tmV]
  simp (disch := omega)
  (repeat' first | apply hK | apply And.intro) <;> try first | omega | rfl | (simp <;> omega)
  generalize a.els v (0, 0) = x1 at hs1 ⊢
  generalize a.occ v = x2 at hs2 ⊢
  cases c <;> cases d
  all_goals
   refine rgL fun K hK => ?_
   simp (disch := omega)
   and_intros <;> try first | apply hK | omega | rfl | simp <;> omega
   show awp _ _ _ _
   refine rgL fun K hK => ?_
   simp (disch := omega)
   (repeat' first | apply hK | apply And.intro) <;> try first | omega | rfl | (simp <;> omega)
   refine ⟨k + 1, by omega, by omega, ?_⟩
   refine wk_list [] rfl ?_ ?_ ?_ ?_
   all_goals try simp [hs1, hs2]
 ·obtain rfl : k = t.args.length := by omega
  rw [List.take_length] at hc hd
  refine condF (by simp <;> omega) ?_
  refine awp_exit ?_
  show awp _ _ _ _
  refine rgS fun K hK => ?_
  simp (disch := omega)
  and_intros <;> try first | apply hK | omega | rfl | simp <;> omega
  refine awp_ret ?_
  rw [← hc, ← hd]
  refine ⟨⟨.inr rfl, _, [], rfl, trivial, trivial, by simp [tmV], ?_⟩, by simp [tmV]⟩
  simp [tmV]
end Go.Proofs.YtghnmmfkckneaaaGreat.M
