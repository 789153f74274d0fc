/-
  Walk in my logic: the value of a term by the reference of layer 28 (Of).
-/
import Derived.Test.YtghnmmfkckneaaaGreatZsaw
import Derived.Test.YtghnmmfkckneaaaGreatZsax
import Derived.Test.YtghnmmfkckneaaaGreatZsap
namespace Go.Proofs.YtghnmmfkckneaaaGreat.M
open Go.RowKit
set_option linter.unusedVariables false
set_option maxRecDepth 100000
set_option maxHeartbeats 32000000
attribute [local simp] ints rows scal wr64 wr8
set_option linter.unusedSimpArgs false

theorem ev_eq (T : Nat → Nat → Nat) (n one : Nat) (v : Nat → Nat) (t : Tm) : t.ev T n one v = if t.op = 1 then one else if t.op = 2 then v t.n.toNat else if t.op = 4 then powT T n (evL T n one v none t.args) t.n else evL T n one v none t.args := by
 obtain ⟨o, m, l⟩ := t
 rw [Tm.ev]
 rfl
theorem evL_one (T : Nat → Nat → Nat) (n one : Nat) (v : Nat → Nat) (a : Tm) : evL T n one v none [a] = a.ev T n one v := by
 rw [evL, evL]; rfl
theorem evL_take (T : Nat → Nat → Nat) (n one : Nat) (v : Nat → Nat) : ∀ (r : List Tm) (y k : Nat) (h : k < r.length), evL T n one v (some y) (r.take (k + 1)) = T (evL T n one v (some y) (r.take k)) (r[k].ev T n one v)
 | a :: r, y, 0, h => by
  show evL T n one v (some y) [a] = T (evL T n one v (some y) []) (a.ev T n one v)
  rw [evL, evL, evL]; rfl
 | a :: r, y, k + 1, h => by
  show evL T n one v (some y) (a :: r.take (k + 1)) = T (evL T n one v (some y) (a :: r.take k)) _
  rw [evL, evL]
  exact evL_take T n one v r _ k (by simpa using h)
theorem evL_lt {T : Nat → Nat → Nat} {n one : Nat} {v : Nat → Nat} (hT : ∀ r c, r < n → c < n → T r c < n) : ∀ (r : List Tm) (y : Nat), y < n → (∀ a ∈ r, a.ev T n one v < n) → evL T n one v (some y) r < n
 | [], y, hy, h => by rw [evL]; exact hy
 | a :: r, y, hy, h => by
  rw [evL]
  exact evL_lt hT r _ (hT _ _ hy (h a (by simp))) fun b hb => h b (by simp [hb])
theorem itS (T : Nat → Nat → Nat) (x k y : Nat) : itT T x (k + 1) y = T (itT T x k y) x := rfl
theorem gr_arg : ∀ {l : List Tm} {a : Tm}, a ∈ l → a.gr ≤ grL l
 | b :: l, a, h => by
  rw [grL]
  rcases List.mem_cons.1 h with rfl | h
  ·omega
  ·have := gr_arg h; omega
theorem has1_arg : ∀ {l : List Tm} {a : Tm}, a ∈ l → a.has1 = true → has1L l = true
 | b :: l, a, h, h1 => by
  rw [has1L]
  rcases List.mem_cons.1 h with rfl | h
  ·rw [h1]; rfl
  ·rw [has1_arg h h1, Bool.or_true]
theorem cut_tl (a : Tm) (r : List Tm) : (a.cells ++ cellsL r).drop 3 = cellsL r := by
 rw [show 3 = a.cells.length by simp, List.drop_left]
section
variable {T : Nat → Nat → Nat} {n : Nat} {one : Int} {vs : List Int} {v : Nat → Nat} {o1 : Nat}
theorem ev_lt (hT : ∀ r c, r < n → c < n → T r c < n) (hA : Assoc n T) (hV : VIn n vs v) {t : Tm} (hok : t.ok = true) (hg : t.gr ≤ vs.length) (h1 : t.has1 = true → one = (o1 : Int) ∧ o1 < n) : t.ev T n o1 v < n :=
 (exn_cmp (u := fun _ => true) hT hA hV t hok hg h1 fun _ _ _ => rfl).1
theorem rOf_fn (tb : List (List Int)) (ht : TbL tb n T) (hA : Assoc n T) (hn : n ≤ 1000) (hV : VIn n vs v) : ∀ t : Tm, t.ok = true → t.sz ≤ 100000 → t.gr ≤ vs.length → (t.has1 = true → one = (o1 : Int) ∧ o1 < n) →
  FnA Tryz.prog 15 [.t 0 (rows tb), .t 2 (.int .i64 one), .t 0 (ints vs), tmV 0 t] (.t 2 (.int .i64 (t.ev T n o1 v : Nat))) := by
 intro t
 induction hsz : t.sz using Nat.strongRecOn generalizing t with
 | _ q ih =>
 intro ho hq hg h1
 have hsl := szL_ge t.args
 have hse := sz_eq t
 have hev := ev_eq T n o1 v t
 obtain ⟨hw, ha⟩ := ok_parts ho
 have hga : ∀ a ∈ t.args, a.gr ≤ vs.length := fun a hm => by
  have := gr_arg hm
  rw [gr_eq] at hg
  omega
 have h1a : ∀ a ∈ t.args, a.has1 = true → one = (o1 : Int) ∧ o1 < n := fun a hm h => h1 (by rw [has1_eq, has1_arg hm h, Bool.or_true])
 refine fn_intro Tryz.func15 rfl (by simp [Tryz.f15]) ?_
 rw [show Tryz.f15.ntmps = 111 from rfl, show Tryz.f15.results = #[.tmp 8] from rfl]
 refine rgS fun K hK => ?_
 simp (disch := omega) [tmV]
 and_intros <;> try first | apply hK | omega | rfl | simp <;> omega
 refine awp_weak (σ' := mkS [(0, .t 0 (rows tb)), (1, .t 2 (.int .i64 one)), (2, .t 0 (ints vs)), (7, .ptr 0 0 3)] [(0, teO' t)] 1 111 [.any, .any, .any, .any]) ?_ ?_
 ·refine wk_list [(0, some 0)] rfl ?_ ?_ ?_ ?_
  all_goals try simp [tmV, teO']
 refine awp_seq ?_
 refine rgS fun K hK => ?_
 simp (disch := omega) [teO', tsTerm]
 and_intros <;> try first | apply hK | omega | rfl | simp <;> omega
 refine awp_block ?_
 rcases wf_cases hw with ⟨h, hn', e⟩ | ⟨h, h0, h6, e⟩ | ⟨h, hn', hl⟩ | ⟨h, hm0, hm9, a, e⟩
 ·rw [if_pos h] at hev
  obtain ⟨rfl, ho1⟩ := h1 (by rw [has1_eq, h]; rfl)
  refine rgS fun K hK => ?_
  simp (disch := omega) [h]
  and_intros <;> try first | apply hK | omega | rfl | simp <;> omega
  refine condT (by simp [h] <;> omega) ?_
  refine rgS fun K hK => ?_
  simp (disch := omega)
  and_intros <;> try first | apply hK | omega | rfl | simp <;> omega
  refine awp_ret ?_
  rw [hev]
  refine ⟨⟨.inr rfl, _, [], rfl, trivial, trivial, by simp [tmV], ?_⟩, by simp [tmV]⟩
  simp [tmV]
 ·rw [if_neg (by omega), if_pos h] at hev
  have hnn : ((t.n.toNat : Nat) : Int) = t.n := by omega
  have hlt : t.n.toNat < vs.length := by
   rw [gr_eq, if_pos h] at hg
   omega
  obtain ⟨hv1, hv2⟩ := hV.get _ hlt
  have hv3 : vs[t.n.toNat] = (v t.n.toNat : Int) := by
   rw [List.getElem?_eq_getElem hlt] at hv1
   exact Option.some.inj hv1
  refine rgS fun K hK => ?_
  simp (disch := omega) [h]
  and_intros <;> try first | apply hK | omega | rfl | simp <;> omega
  refine condF (by simp [h] <;> omega) ?_
  refine rgS fun K hK => ?_
  simp (disch := omega) [h]
  and_intros <;> try first | apply hK | omega | rfl | simp <;> omega
  refine condT (by simp [h] <;> omega) ?_
  refine rgS fun K hK => ?_
  simp (disch := omega) [teO', tsTerm, hlt, hv3]
  and_intros <;> try first | apply hK | omega | rfl | simp <;> omega
  refine awp_ret ?_
  rw [hev]
  refine ⟨⟨.inr rfl, _, [], rfl, trivial, trivial, by simp [tmV], ?_⟩, by simp [tmV]⟩
  simp [tmV]
 ·rw [if_neg (by omega), if_neg (by omega), if_neg (by omega)] at hev
  refine rgS fun K hK => ?_
  simp (disch := omega) [h]
  and_intros <;> try first | apply hK | omega | rfl | simp <;> omega
  refine condF (by simp [h] <;> omega) ?_
  refine rgS fun K hK => ?_
  simp (disch := omega) [h]
  and_intros <;> try first | apply hK | omega | rfl | simp <;> omega
  refine condF (by simp [h] <;> omega) ?_
  refine rgS fun K hK => ?_
  simp (disch := omega) [h]
  and_intros <;> try first | apply hK | omega | rfl | simp <;> omega
  refine condT (by simp [h] <;> omega) ?_
  obtain ⟨a, r, e⟩ : ∃ a r, t.args = a :: r := by
   cases h : t.args with
   | nil => rw [h] at hl; simp at hl
   | cons a r => exact ⟨a, r, rfl⟩
  have ham : a ∈ t.args := by rw [e]; simp
  have hlt := sz_arg ham
  have hA1 := ih a.sz (by omega) a rfl (ha a ham) (by omega) (hga a ham) (h1a a ham)
  have hyl := ev_lt ht.lt hA hV (ha a ham) (hga a ham) (h1a a ham)
  rw [e, evL] at hev
  have hrl : r.length ≤ 100000 := by rw [e] at hsl hse; rw [List.length_cons] at hsl; omega
  have hcl : (cellsL (a :: r)).length = (r.length + 1) * 3 := by simp
  rw [e] at hsl hse
  have hct := cut_tl a r
  refine rgS fun K hK => ?_
  simp (disch := omega) [teO', e, cellsL, Tm.cells_eq, tsTerm]
  (repeat' apply And.intro)
  all_goals (try omega)
  refine callO (hA1) rfl rfl rfl rfl (by kernel_rfl) (by simp) ?_ ?_
  ·simp [tmV]
  simp (disch := omega)
  and_intros <;> try first | apply hK | omega | rfl | simp <;> omega
  refine awp_seq ?_
  rw [Tm.cells_eq] at hct
  refine rgS fun K hK => ?_
  simp (disch := omega) [teO', e, cellsL, Tm.cells_eq, tsTerm, hct]
  (repeat' first | apply hK | apply And.intro) <;> try first | omega | rfl | (simp <;> omega)
  have hln : (((r.length : Int) * 3 + 1 + 1 + 1) / 3).toNat - 1 = r.length := by omega
  have hfull : List.take (r.length * 3) (cellsL r) = cellsL r := List.take_of_length_le (by simp)
  have harl : ∀ (k : Nat) (h : k < r.length), r[k] ∈ t.args := fun k h => by rw [e]; exact List.mem_cons_of_mem _ (List.getElem_mem h)
  refine awp_block ?_
  refine awp_loop (fun k : Nat => mkS [(0, .t 0 (rows tb)), (1, .t 2 (.int .i64 one)), (2, .t 0 (ints vs)), (9, .t 2 (.int .i64 (evL T n o1 v (some (a.ev T n o1 v)) (r.take k) : Nat))), (40, .t 0 (.sl 3 (cellsL r))), (41, .t 2 (.int .i64 (r.length : Nat))), (42, .t 2 (.int .i64 (k : Nat)))] [] 0 111 [.any, .any, .any, .any]) (fun k => k ≤ r.length) (fun k => r.length - k) ?_ ?_
  ·refine ⟨0, by omega, ?_⟩
   refine wk_list [] rfl ?_ ?_ ?_ ?_
   all_goals try simp [evL, hln, hfull]
  intro k hk
  refine rgS fun K hK => ?_
  simp (disch := omega)
  and_intros <;> try first | apply hK | omega | rfl | simp <;> omega
  refine awp_seq ?_
  by_cases hkl : k < r.length
  ·obtain ⟨b, hbk⟩ : ∃ b, b = r[k] := ⟨_, rfl⟩
   have hcut := cellsL_cut r k hkl
   rw [← hbk, Tm.cells_eq] at hcut
   have hbm : b ∈ t.args := by rw [hbk]; exact harl k hkl
   have hblt := sz_arg hbm
   have hB := ih b.sz (by omega) b rfl (ha b hbm) (by omega) (hga b hbm) (h1a b hbm)
   have hbl := ev_lt ht.lt hA hV (ha b hbm) (hga b hbm) (h1a b hbm)
   have hstep := evL_take T n o1 v r (a.ev T n o1 v) k hkl
   rw [← hbk] at hstep
   have hyl2 := evL_lt (n := n) ht.lt (r.take k) _ hyl fun c hc => by
    have hcm : c ∈ t.args := by rw [e]; exact List.mem_cons_of_mem _ (List.mem_of_mem_take hc)
    exact ev_lt ht.lt hA hV (ha c hcm) (hga c hcm) (h1a c hcm)
   generalize evL T n o1 v (some (a.ev T n o1 v)) (r.take k) = y at hstep hyl2 ⊢
   obtain ⟨g1, g2, g3⟩ := ht.get hyl2 hbl
   refine condT (by simp [hkl] <;> omega) ?_
   refine awp_skip ?_
   show awp _ _ _ _
   refine awp_seq ?_
   refine awp_block ?_
   refine rgS fun K hK => ?_
   simp (disch := omega) [hcut, hkl, tsTerm]
   and_intros <;> try first | apply hK | omega | rfl | simp <;> omega
   refine awp_RD (by kernel_rfl) (fun K hK => ?_)
   simp (disch := omega) [tsTerm, g1]
   (repeat' apply And.intro)
   all_goals (try omega)
   refine callOD (hB) rfl rfl rfl rfl (by kernel_rfl) (by simp) ?_ ?_
   ·simp [tmV]
   simp (disch := omega) [g1, g2, g3]
   and_intros <;> try first | apply hK | (show chkD _ _ = true; kernel_rfl) | omega | rfl | simp <;> omega
   show awp _ _ _ _
   refine rgL fun K hK => ?_
   simp (disch := omega)
   (repeat' first | apply hK | apply And.intro) <;> try first | omega | rfl | (simp <;> omega)
   refine ⟨k + 1, by omega, by omega, ?_⟩
   refine wk_list [] rfl ?_ ?_ ?_ ?_
   all_goals try simp [hstep]
  ·obtain rfl : k = r.length := by omega
   refine condF (by simp <;> omega) ?_
   refine awp_exit ?_
   show awp _ _ _ _
   refine rgS fun K hK => ?_
   simp (disch := omega)
   and_intros <;> try first | apply hK | omega | rfl | simp <;> omega
   refine awp_ret ?_
   rw [hev]
   refine ⟨⟨.inr rfl, _, [], rfl, trivial, trivial, by simp [tmV], ?_⟩, by simp [tmV]⟩
   simp [tmV]
 ·rw [if_neg (by omega), if_neg (by omega), if_pos h, e, evL_one] at hev
  have ham : a ∈ t.args := by rw [e]; simp
  have hlt := sz_arg ham
  have hA1 := ih a.sz (by omega) a rfl (ha a ham) (by omega) (hga a ham) (h1a a ham)
  have hx := ev_lt ht.lt hA hV (ha a ham) (hga a ham) (h1a a ham)
  have hOm := rOmega_fn tb n T ht hA hn (a.ev T n o1 v) hx
  have hel := omT_lt ht.lt hA hx
  refine rgS fun K hK => ?_
  simp (disch := omega) [h]
  and_intros <;> try first | apply hK | omega | rfl | simp <;> omega
  refine condF (by simp [h] <;> omega) ?_
  refine rgS fun K hK => ?_
  simp (disch := omega) [h]
  and_intros <;> try first | apply hK | omega | rfl | simp <;> omega
  refine condF (by simp [h] <;> omega) ?_
  refine rgS fun K hK => ?_
  simp (disch := omega) [h]
  and_intros <;> try first | apply hK | omega | rfl | simp <;> omega
  refine condF (by simp [h] <;> omega) ?_
  refine awp_skip ?_
  show awp _ _ _ _
  refine rgS fun K hK => ?_
  simp (disch := omega) [teO', e, cellsL, Tm.cells_eq, tsTerm]
  (repeat' apply And.intro)
  all_goals (try omega)
  refine callO (hA1) rfl rfl rfl rfl (by kernel_rfl) (by simp) ?_ ?_
  ·simp [tmV]
  simp (disch := omega)
  (repeat' first | apply hK | apply And.intro) <;> try first | omega | rfl | (simp <;> omega)
  generalize a.ev T n o1 v = x at hev hx hOm hel ⊢
  refine rgS fun K hK => ?_
  simp (disch := omega)
  (repeat' apply And.intro)
  all_goals (try omega)
  refine callO (hOm) rfl rfl rfl rfl (by kernel_rfl) (by simp) ?_ ?_
  ·simp
  simp (disch := omega)
  and_intros <;> try first | apply hK | omega | rfl | simp <;> omega
  refine awp_weak (σ' := mkS [(0, .t 0 (rows tb)), (7, .ptr 0 0 3), (12, .t 2 (.int .i64 (x : Nat))), (13, .t 2 (.int .i64 (omT T n x : Nat)))] [(0, teO' t)] 1 111 [.any, .any, .any, .any]) ?_ ?_
  ·refine wk_list [(0, some 0)] rfl ?_ ?_ ?_ ?_
   all_goals try simp [teO', h, e, cellsL, Tm.cells_eq]
  refine awp_seq ?_
  refine rgS fun K hK => ?_
  simp (disch := omega) [teO', tsTerm]
  (repeat' first | apply hK | apply And.intro) <;> try first | omega | rfl | (simp <;> omega)
  by_cases hneg : 0 ≤ t.n
  ·have hmn : ((t.n.toNat : Nat) : Int) = t.n := by omega
   have hres : t.ev T n o1 v = itT T x t.n.toNat (omT T n x) := by rw [hev]; unfold powT; rw [if_neg (by omega)]
   refine condT (by simp [hneg] <;> omega) ?_
   refine awp_seq ?_
   refine rgS fun K hK => ?_
   simp (disch := omega)
   and_intros <;> try first | apply hK | omega | rfl | simp <;> omega
   refine awp_block ?_
   refine awp_loop (fun k : Nat => mkS [(0, .t 0 (rows tb)), (7, .ptr 0 0 3), (12, .t 2 (.int .i64 (x : Nat))), (13, .t 2 (.int .i64 (itT T x k (omT T n x) : Nat))), (14, .t 2 (.int .i64 (k : Nat)))] [(0, teO' t)] 1 111 [.any, .any, .any, .any]) (fun k => k ≤ t.n.toNat) (fun k => t.n.toNat - k) ?_ ?_
   ·refine ⟨0, by omega, ?_⟩
    refine wk_list [(0, some 0)] rfl ?_ ?_ ?_ ?_
    all_goals try simp [teO', itT]
   intro k hk
   have hyl := it_lt ht.lt hx hel k
   obtain ⟨g1, g2, g3⟩ := ht.get hyl hx
   have hstep := itS T x k (omT T n x)
   refine awp_seq ?_
   refine rgS fun K hK => ?_
   simp (disch := omega) [teO', tsTerm]
   (repeat' first | apply hK | apply And.intro) <;> try first | omega | rfl | (simp <;> omega)
   by_cases hkl : k < t.n.toNat
   ·have hkl' : (k : Int) < t.n := by omega
    generalize itT T x k (omT T n x) = y at hstep hyl g1 g2 g3 ⊢
    refine condT (by simp [hkl'] <;> omega) ?_
    refine awp_skip ?_
    show awp _ _ _ _
    refine awp_seq ?_
    refine awp_block ?_
    refine rgL fun K hK => ?_
    simp (disch := omega) [g1, g2, g3]
    and_intros <;> try first | apply hK | omega | rfl | simp <;> omega
    show awp _ _ _ _
    refine rgL fun K hK => ?_
    simp (disch := omega)
    (repeat' first | apply hK | apply And.intro) <;> try first | omega | rfl | (simp <;> omega)
    refine ⟨k + 1, by omega, by omega, ?_⟩
    refine wk_list [(0, some 0)] rfl ?_ ?_ ?_ ?_
    all_goals try simp [teO', hstep]
   ·obtain rfl : k = t.n.toNat := by omega
    refine condF (by simp <;> omega) ?_
    refine awp_exit ?_
    show awp _ _ _ _
    refine rgS fun K hK => ?_
    simp (disch := omega)
    and_intros <;> try first | apply hK | omega | rfl | simp <;> omega
    refine awp_ret ?_
    rw [hres]
    refine ⟨⟨.inr rfl, _, [], rfl, trivial, trivial, by simp [tmV], ?_⟩, by simp [tmV]⟩
    simp [tmV]
  ·obtain ⟨j0, hj0, hin, hjd, hjn⟩ := inv_spec ht.lt hA hx
   have hres : t.ev T n o1 v = itT T x j0 (omT T n x) := by rw [hev]; unfold powT; rw [if_pos (by omega), hin]
   clear hin hev
   generalize omT T n x = em at hOm hel hjd hjn hres ⊢
   obtain ⟨j1, hj1, hjd1, hjn1, hres1⟩ : ∃ j1, 1 ≤ j1 ∧ T (itT T x j1 em) x = em ∧ (∀ j, 1 ≤ j → j < j1 → T (itT T x j em) x ≠ em) ∧ itT T x j0 em = itT T x j1 em := by
    by_cases h0 : j0 = 0
    ·subst h0
     have h2 : T em x = em := hjd
     have h3 : itT T x 1 em = em := h2
     exact ⟨1, by omega, by rw [h3]; exact h2, fun j _ _ => by omega, by rw [h3]; rfl⟩
    ·exact ⟨j0, by omega, hjd, fun j _ h => hjn j h, rfl⟩
   rw [hres1] at hres
   obtain ⟨b1, b2, b3⟩ := ht.get hel hx
   refine condF (by simp [hneg] <;> omega) ?_
   refine awp_skip ?_
   show awp _ _ _ _
   refine rgS fun K hK => ?_
   simp (disch := omega) [b1, b2, b3]
   and_intros <;> try first | apply hK | omega | rfl | simp <;> omega
   refine awp_seq ?_
   refine awp_block ?_
   refine awp_loop (fun j : Nat => mkS [(0, .t 0 (rows tb)), (12, .t 2 (.int .i64 (x : Nat))), (13, .t 2 (.int .i64 (em : Nat))), (15, .t 2 (.int .i64 (itT T x j em : Nat)))] [] 0 111 [.any, .any, .any, .any]) (fun j => 1 ≤ j ∧ j ≤ j1) (fun j => j1 - j) ?_ ?_
   ·refine ⟨1, ⟨by omega, hj1⟩, ?_⟩
    refine wk_list [] rfl ?_ ?_ ?_ ?_
    all_goals try simp [itT]
   rintro j ⟨hj, hjj⟩
   have hyl := it_lt ht.lt hx hel j
   obtain ⟨g1, g2, g3⟩ := ht.get hyl hx
   have hstep := itS T x j em
   refine awp_seq ?_
   by_cases hq' : T (itT T x j em) x = em
   ·obtain rfl : j = j1 := by
     rcases Nat.lt_or_ge j j1 with h | h
     ·exact absurd hq' (hjn1 j hj h)
     ·omega
    refine rgS fun K hK => ?_
    simp (disch := omega) [g1, g2, g3]
    and_intros <;> try first | apply hK | omega | rfl | simp <;> omega
    refine condF (by simp [hq'] <;> omega) ?_
    refine awp_exit ?_
    show awp _ _ _ _
    refine rgS fun K hK => ?_
    simp (disch := omega)
    and_intros <;> try first | apply hK | omega | rfl | simp <;> omega
    refine awp_ret ?_
    rw [hres]
    refine ⟨⟨.inr rfl, _, [], rfl, trivial, trivial, by simp [tmV], ?_⟩, by simp [tmV]⟩
    simp [tmV]
   ·have hlt : j < j1 := by
     rcases Nat.lt_or_ge j j1 with h | h
     ·exact h
     ·obtain rfl : j = j1 := by omega
      exact absurd hjd1 hq'
    generalize itT T x j em = y at hstep hyl g1 g2 g3 hq' ⊢
    refine rgS fun K hK => ?_
    simp (disch := omega) [g1, g2, g3]
    and_intros <;> try first | apply hK | omega | rfl | simp <;> omega
    refine condT (by simp [hq'] <;> omega) ?_
    refine awp_skip ?_
    show awp _ _ _ _
    refine awp_block ?_
    refine rgL fun K hK => ?_
    simp (disch := omega) [g1, g2, g3]
    (repeat' first | apply hK | apply And.intro) <;> try first | omega | rfl | (simp <;> omega)
    refine ⟨j + 1, ⟨by omega, by omega⟩, by omega, ?_⟩
    refine wk_list [] rfl ?_ ?_ ?_ ?_
    all_goals try simp [hstep]
end
end Go.Proofs.YtghnmmfkckneaaaGreat.M
