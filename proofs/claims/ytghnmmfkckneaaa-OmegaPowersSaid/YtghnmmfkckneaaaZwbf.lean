/-
  Walk in my logic: the law OmegaPowers.
-/
import Derived.Test.YtghnmmfkckneaaaZwbe
import Derived.Test.YtghnmmfkckneaaaZwba
namespace Go.Proofs.Ytghnmmfkckneaaa.M
open Go.RowKit
set_option linter.unusedVariables false
set_option linter.unusedSimpArgs false

theorem FnS.argI {P : Program} {f : FuncId} {args args' : List AV} {H H' : List AObj} {res : AV} (h : FnS P f args H res H') (hl : args'.length = args.length) (hv : ∀ (i : Nat) c c', args[i]? = some c → args'[i]? = some c' → ∀ E v, VR E v c' → VR E v c) (hg : ghA args' = ghA args) : FnS P f args' H res H' := fun w V ob vs hm hn hr => by
  have := h w V ob vs hm (by rw [hn, hl]) (fun i c hi => by
    have hlt : i < args'.length := by rw [hl]; exact (List.getElem?_eq_some_iff.1 hi).1
    exact hv i c args'[i] hi (by simp) _ _ (hr i args'[i] (by simp)))
  rw [hg]
  exact this
theorem Rep.leaf3 {m : Mem} {v : Value} {a b : M.T} (h : Rep m v (.sl 3 [a, b, .sl 0 []])) : Rep m v (.sl 3 [a, b, .sl 3 []]) := by
  cases h with
  | sl bl o n cap z cs vs hz hn h1 h2 hc hr =>
    refine .sl bl o n cap 3 _ vs hz hn h1 h2 (fun i c hi => ?_) (fun i c hi => ?_)
    · match i with
      | 0 => exact hc 0 _ rfl
      | 1 => exact hc 1 _ rfl
      | 2 => exact hc 2 _ rfl
      | i + 3 => simp at hi
    · match i with
      | 0 => injection hi with hi; subst hi; exact hr 0 _ rfl
      | 1 => injection hi with hi; subst hi; exact hr 1 _ rfl
      | 2 =>
        injection hi with hi
        subst hi
        have := hr 2 _ rfl
        generalize vs 2 = u at this
        cases this with
        | nil z => exact .nil 3
        | emp a z hz => omega
        | sl b o n cap z cs vs hz => omega
      | i + 3 => simp at hi
def pwTm (m : Int) : Tm := .mk 4 m [.mk 2 0 []]
theorem val_pw {tb : List (List Int)} (v1 : vErr tb = 0) {x : Nat} (hx : x < tb.length) {m : Int} (h0 : -1 ≤ m) (h9 : m ≤ 9) : valP tb [(x : Int)] (pwTm m) = (((powT (tabOf tb) tb.length x m : Nat) : Int), 0) := by
  have hok : (pwTm m).ok = true := ok_pow h0 h9 (ok_var (n := 0) (by omega))
  have hval : (pwTm m).val = true := by unfold Tm.val; rw [hok]; rfl
  have hin : inB tb.length [(x : Int)] = true := inB_t fun i h => by
    obtain rfl : i = 0 := by simpa using h
    simp only [List.getElem_cons_zero]; omega
  have hg : (pwTm m).gr = 1 := by
    rw [gr_eq]
    show max (if (4 : Int) = 2 then _ else 0) (grL [Tm.mk 2 0 []]) = 1
    rw [grL, grL, Tm.gr, grL]
    rfl
  have h1 : (pwTm m).has1 = false := rfl
  unfold valP
  rw [if_neg (by omega), if_neg (by rw [hval]; decide), if_neg (by
    rintro (h | h)
    · rw [hin] at h; cases h
    · rw [hg] at h; simp at h), if_neg (by rw [h1]; simp)]
  have hev : (pwTm m).ev (tabOf tb) tb.length (idI (tabOf tb) tb.length).toNat (vsF [(x : Int)]) = powT (tabOf tb) tb.length x m := by
    rw [ev_eq]
    show (if (4 : Int) = 1 then _ else if (4 : Int) = 2 then _ else if (4 : Int) = 4 then powT (tabOf tb) tb.length (evL _ _ _ _ none [Tm.mk 2 0 []]) m else _) = _
    rw [if_neg (by decide), if_neg (by decide), if_pos rfl, evL_one, ev_eq]
    show powT _ _ (if (2 : Int) = 1 then _ else if (2 : Int) = 2 then vsF [(x : Int)] (0 : Int).toNat else _) m = _
    rw [if_neg (by decide), if_pos rfl]
    congr 1
  rw [hev]
theorem pow_laws {T : Nat → Nat → Nat} {n : Nat} (hT : ∀ r c, r < n → c < n → T r c < n) (hA : Assoc n T) {x : Nat} (hx : x < n) :
    powT T n x 0 = omT T n x ∧ powT T n x 1 = T (omT T n x) x ∧ T (powT T n x (-1)) x = omT T n x ∧ T (omT T n x) (powT T n x (-1)) = powT T n x (-1) := by
  obtain ⟨j0, hj0, hin, hjd, -⟩ := inv_spec hT hA hx
  have hel := omT_lt hT hA hx
  have hm1 : powT T n x (-1) = itT T x j0 (omT T n x) := by unfold powT; rw [if_pos (by decide), hin]
  refine ⟨rfl, rfl, by rw [hm1]; exact hjd, ?_⟩
  rw [hm1]
  have key : ∀ j, T (omT T n x) (itT T x j (omT T n x)) = itT T x j (omT T n x) := fun j => by
    induction j with
    | zero => exact omT_idem hT hA hx
    | succ j ih =>
      rw [itS]
      have hyl := it_lt hT hx hel j
      rw [← hA _ _ _ hel hyl hx, ih]
  exact key j0
set_option maxRecDepth 100000 in
set_option maxHeartbeats 8000000 in
theorem omegaPowers_fn (l : List Int) : FnA Try.prog 8 [.t 1 (ints l)] (.t 2 (.bool true)) := by
  have hnew := new_fn l
  obtain ⟨xs, hxs⟩ : ∃ xs, xs = l.take 80 := ⟨_, rfl⟩
  have hl : xs.length ≤ 80 := by rw [hxs]; simp; omega
  rw [← hxs] at hnew
  obtain ⟨res, H', ⟨tb, b, hTb, hb, rfl, rfl⟩, hT⟩ := table28_fn xs 0 27 (by omega) hl (by omega)
  obtain ⟨v1, -, htb0, htb⟩ := hTb.ok (by omega) (by omega)
  obtain ⟨x, b2, hx, hb2, hN1⟩ := next_fn xs b tb.length hb hl (by omega)
  have hx := hx (by omega)
  have hx : x < tb.length := by omega
  have ht := TbL.of v1
  have hA := vErr_asc v1
  have hpl : ∀ m : Int, powT (tabOf tb) tb.length x m < tb.length := fun m => powT_lt ht.lt hA hx m
  refine fn_intro Try.func8 rfl (by simp [Try.f8]) ?_
  rw [show Try.f8.ntmps = 129 from rfl, show Try.f8.results = #[.tmp 2] from rfl]
  refine awp_seqR (fun K hK => ?_)
  simp (maxSteps := 2000000) (disch := omega) [ints, rows, scal, wr64, wr8]
  (repeat' first | refine hK _ ?_ | apply And.intro) <;> clear hK K <;> try first | omega | rfl | (simp <;> omega)
  refine awp_seqR (fun K hK => ?_)
  simp (maxSteps := 2000000) (disch := omega) [ints, rows, scal, wr64, wr8]
  (repeat' apply And.intro)
  all_goals (try omega)
  refine call_rule (caps := []) (hnew) [] [2000000] 1 rfl rfl rfl rfl (by kernel_rfl) (by simp) ?_ ?_ (by simp) rfl (by simp) ⟨.inl ⟨by omega, by omega⟩, trivial⟩ (by simp [tpO]) ?_
  · simp [scal, rows, ints, tpO]
  · trivial
  simp (maxSteps := 2000000) (disch := omega) [ints, rows, scal, wr64, wr8, tpO]
  (repeat' first | refine hK _ ?_ | apply And.intro) <;> clear hK K <;> try first | omega | rfl | (simp <;> omega)
  refine awp_weak (σ' := mkS [(2, .t 2 (.bool false)), (3, .ptr 0 0 2)] [(0, tpO 1 xs 0)] 1 129 [.any]) ?_ ?_
  · refine wk_list [(0, some 2000000)] rfl ?_ ?_ ?_ ?_
    all_goals try simp [ints, tpO, scal]
  refine awp_seqR (fun K hK => ?_)
  simp (maxSteps := 2000000) (disch := omega) [ints, rows, scal, wr64, wr8]
  (repeat' apply And.intro)
  all_goals (try omega)
  refine call_rule (caps := []) (hT) [0] [0] 1 rfl rfl rfl rfl (by kernel_rfl) (by simp) ?_ ?_ (by simp) rfl (by simp) ⟨.inr ⟨rfl, 0, _, _, _, _, _, rfl, rfl, rfl, rfl, rfl⟩, trivial⟩ (by simp [tpO]) ?_
  · simp [scal, rows, ints, tpO]
  · simp [scal, rows, ints, tpO]
  simp (maxSteps := 2000000) (disch := omega) [ints, rows, scal, wr64, wr8, tpO]
  (repeat' first | refine hK _ ?_ | apply And.intro) <;> clear hK K <;> try first | omega | rfl | (simp <;> omega)
  refine awp_seqR (fun K hK => ?_)
  simp (maxSteps := 2000000) (disch := omega) [ints, rows, scal, wr64, wr8, rows]
  (repeat' apply And.intro)
  all_goals (try omega)
  refine call_rule (caps := []) (hN1) [0] [0] 1 rfl rfl rfl rfl (by kernel_rfl) (by simp) ?_ ?_ (by simp) rfl (by simp) ⟨.inr ⟨rfl, 0, _, _, _, _, _, rfl, rfl, rfl, rfl, rfl⟩, trivial⟩ (by simp [tpO]) ?_
  · simp [scal, rows, ints, tpO]
  · simp [scal, rows, ints, tpO]
  simp (maxSteps := 2000000) (disch := omega) [ints, rows, scal, wr64, wr8, tpO, rng_l1]
  (repeat' first | refine hK _ ?_ | apply And.intro) <;> clear hK K <;> try first | omega | rfl | (simp <;> omega)
  refine awp_seqR (fun K hK => ?_)
  simp (maxSteps := 2000000) (disch := omega) [ints, rows, scal, wr64, wr8]
  (repeat' first | refine hK _ ?_ | apply And.intro) <;> clear hK K <;> try first | omega | rfl | (simp <;> omega)
  refine awp_weak (σ' := mkS [(2, .t 2 (.bool false)), (4, .t 2 (rows tb)), (5, .t 2 (ints [(x : Int)])), (6, .t 2 (.sl 0 []))] [] 0 129 [.any]) ?_ ?_
  · refine wk_list [] rfl ?_ ?_ ?_ ?_
    all_goals try simp [ints, rows, ints, wkT_cons, wkT_nil, wk1]
  refine awp_seq ?_
  refine awp_seqR (fun K hK => ?_)
  simp (maxSteps := 2000000) (disch := omega) [ints, rows, scal, wr64, wr8]
  (repeat' first | refine hK _ ?_ | apply And.intro) <;> clear hK K <;> try first | omega | rfl | (simp <;> omega)
  refine awp_block ?_
  refine awp_loop (fun k : Nat => mkS [(2, .t 2 (.bool false)), (4, .t 2 (rows tb)), (5, .t 2 (ints [(x : Int)])), (6, .own 0 k), (7, .t 2 (.int .i64 ((k : Int) - 1)))] [(0, .row 3 1 2 (tab k fun i => .int .i64 (powT (tabOf tb) tb.length x ((i : Int) - 1) : Nat)))] 1 129 [.any]) (fun k => k ≤ 3) (fun k => 3 - k) ?_ ?_
  · refine ⟨0, by omega, ?_⟩
    refine wk_list [(0, none)] rfl ?_ ?_ ?_ ?_
    all_goals try simp [ints, rows, ints]
  intro k hk
  refine awp_seq ?_
  by_cases hk3 : k < 3
  · have hm1 : (k : Int) - 1 ≤ 1 := by omega
    have hO := oValue_fn tb [(x : Int)] (pwTm ((k : Int) - 1)) (by simp)
    rw [val_pw v1 hx (by omega) (by omega)] at hO
    have hO := FnS.argI (args' := [.t 1 (rows tb), .t 0 (ints [(x : Int)]), .agg [.t 2 (.int .i64 4), .t 2 (.int .i64 ((k : Int) - 1)), .t 0 (.sl 3 [.int .i64 2, .int .i64 0, .sl 0 []])]]) hO rfl (fun i c c' h1 h2 E v hv => by
      match i with
      | 0 => injection h1 with h1; injection h2 with h2; subst h1 h2; exact hv
      | 1 => injection h1 with h1; injection h2 with h2; subst h1 h2; exact hv
      | 2 =>
        injection h1 with h1
        injection h2 with h2
        subst h1 h2
        exact hv.upA ⟨fun _ _ h => h, fun _ _ h => h, fun E v h => .t _ _ _ h.rep.leaf3, trivial⟩
      | i + 3 => simp at h1) rfl
    have hp := hpl ((k : Int) - 1)
    have hsn := tab_succ k fun i => M.T.int .i64 (powT (tabOf tb) tb.length x ((i : Int) - 1) : Nat)
    generalize powT (tabOf tb) tb.length x ((k : Int) - 1) = pv at hO hp hsn
    refine awp_seqR (fun K hK => ?_)
    simp (maxSteps := 2000000) (disch := omega) [ints, rows, scal, wr64, wr8, hm1]
    (repeat' first | refine hK _ ?_ | apply And.intro) <;> clear hK K <;> try first | omega | rfl | (simp <;> omega)
    refine awp_cond (b := true) (p := 2) (by simp [scal, hm1] <;> omega) ?_
    refine awp_skip ?_
    show awp _ _ _ _
    refine awp_seq ?_
    refine awp_block ?_
    refine awp_seqR (fun K hK => ?_)
    simp (maxSteps := 2000000) (disch := omega) [ints, rows, scal, wr64, wr8, tsTerm, rng_l3]
    (repeat' apply And.intro)
    all_goals (try omega)
    refine call_rule (caps := []) (hO) [] [] 2 rfl rfl rfl rfl (by kernel_rfl) (by simp) ?_ trivial trivial rfl trivial trivial (by simp) ?_
    · simp [scal, rows, ints, tmV, rows, ints, pwTm, Tm.op, Tm.n, Tm.args, cellsL, Tm.cells]
    simp (maxSteps := 2000000) (disch := omega) [ints, rows, scal, wr64, wr8, valV]
    (repeat' first | refine hK _ ?_ | apply And.intro) <;> clear hK K <;> try first | omega | rfl | (simp <;> omega)
    refine awp_seq ?_
    have hp0 : ¬ ((pv : Int) < 0) := by omega
    have hp1 : ¬ ((tb.length : Int) ≤ (pv : Int)) := by omega
    refine awp_seqR (fun K hK => ?_)
    simp (maxSteps := 2000000) (disch := omega) [ints, rows, scal, wr64, wr8, hp0, hp1, rows]
    (repeat' first | refine hK _ ?_ | apply And.intro) <;> clear hK K <;> try first | omega | rfl | (simp <;> omega)
    refine awp_cond (b := false) (p := 2) (by simp [scal, hp1] <;> omega) ?_
    refine awp_skip ?_
    show awp _ _ _ _
    refine awp_R (fun K hK => ?_)
    simp (maxSteps := 2000000) (disch := omega) [ints, rows, scal, wr64, wr8]
    (repeat' first | refine hK _ ?_ | apply And.intro) <;> clear hK K <;> try first | omega | rfl | (simp <;> omega)
    show awp _ _ _ _
    refine awp_R (fun K hK => ?_)
    simp (maxSteps := 2000000) (disch := omega) [ints, rows, scal, wr64, wr8]
    (repeat' first | refine hK _ ?_ | apply And.intro) <;> clear hK K <;> try first | omega | rfl | (simp <;> omega)
    refine ⟨k + 1, by omega, by omega, ?_⟩
    refine wk_list [(0, some 0)] rfl ?_ ?_ ?_ ?_
    all_goals try simp [ints, rows, ints, hsn]
  · obtain rfl : k = 3 := by omega
    have hm := mOmega_fn tb v1 x hx
    obtain ⟨q1, q2, q3, q4⟩ := pow_laws ht.lt hA hx
    have q5 := omT_idem ht.lt hA hx
    have l1 := hpl (-1)
    have l2 := omT_lt ht.lt hA hx
    obtain ⟨p0, hp0⟩ : ∃ p0, p0 = powT (tabOf tb) tb.length x (-1) := ⟨_, rfl⟩
    obtain ⟨e, he⟩ : ∃ e, e = omT (tabOf tb) tb.length x := ⟨_, rfl⟩
    have htab : (tab 3 fun i => M.T.int .i64 (powT (tabOf tb) tb.length x ((i : Int) - 1) : Nat)) = [.int .i64 (p0 : Nat), .int .i64 (e : Nat), .int .i64 (tabOf tb e x : Nat)] := by
      show [M.T.int .i64 (powT (tabOf tb) tb.length x (((0 : Nat) : Int) - 1) : Nat), M.T.int .i64 (powT (tabOf tb) tb.length x (((1 : Nat) : Int) - 1) : Nat), M.T.int .i64 (powT (tabOf tb) tb.length x (((2 : Nat) : Int) - 1) : Nat)] = _
      rw [show ((0 : Nat) : Int) - 1 = -1 by decide, show ((1 : Nat) : Int) - 1 = 0 by decide, show ((2 : Nat) : Int) - 1 = 1 by decide, q1, q2, hp0, he]
    rw [htab]
    rw [← hp0] at q3 q4 l1
    rw [← he] at q3 q4 q5 l2 hm
    clear htab q1 q2 hpl
    obtain ⟨g1, g2, g3⟩ := ht.get l2 l2
    obtain ⟨g4, g5, g6⟩ := ht.get l2 hx
    obtain ⟨g7, g8, g9⟩ := ht.get l1 hx
    obtain ⟨g10, g11, g12⟩ := ht.get l2 l1
    rw [q5] at g3
    rw [q3] at g9
    rw [q4] at g12
    refine awp_weak (σ' := mkS [(4, .t 2 (rows tb)), (5, .t 2 (ints [(x : Int)])), (6, .t 2 (ints [(p0 : Int), (e : Int), (tabOf tb e x : Int)])), (7, .t 2 (.int .i64 2))] [] 0 129 [.any]) ?_ ?_
    · refine wk_list [] rfl ?_ ?_ ?_ ?_
      all_goals try simp [ints, rows, ints, wkT_cons, wkT_nil, wk1]
    refine awp_seqR (fun K hK => ?_)
    simp (maxSteps := 2000000) (disch := omega) [ints, rows, scal, wr64, wr8]
    (repeat' first | refine hK _ ?_ | apply And.intro) <;> clear hK K <;> try first | omega | rfl | (simp <;> omega)
    refine awp_cond (b := false) (p := 2) (by simp [scal] <;> omega) ?_
    refine awp_exit ?_
    show awp _ _ _ _
    refine awp_seqD (by kernel_rfl) (fun K hK => ?_)
    simp (maxSteps := 2000000) (disch := omega) [ints, rows, scal, wr64, wr8, rows, ints, g1, g2, g3]
    (repeat' apply And.intro)
    all_goals (try omega)
    refine call_ruleD (caps := []) (hm) [] [] 2 (by simp [scal, rows, ints, rows, ints]) rfl rfl rfl (by kernel_rfl) (by simp) ?_ trivial trivial rfl trivial trivial (by simp) ?_
    · simp [scal, rows, ints, rows, ints]
    simp (maxSteps := 2000000) (disch := omega) [ints, rows, scal, wr64, wr8, rows, ints, g1, g2, g3, g4, g5, g6, g7, g8, g9, g10, g11, g12]
    (repeat' apply And.intro)
    all_goals (try omega)
    refine call_ruleD (caps := []) (known28_fn) [] [] 2 (by simp [scal, rows, ints]) rfl rfl rfl (by kernel_rfl) (by simp) ?_ trivial trivial rfl trivial trivial (by simp) ?_
    · simp [scal, rows, ints]
    simp (maxSteps := 2000000) (disch := omega) [ints, rows, scal, wr64, wr8]
    (repeat' first | refine hK _ ?_ | apply And.intro) <;> clear hK K <;> try first | (show chkD _ _ = true; kernel_rfl) | omega | rfl | (simp <;> omega)
    refine awp_ret ?_
    refine ⟨⟨.inr rfl, _, [], rfl, trivial, trivial, by simp, ?_⟩, by simp⟩
    simp
end Go.Proofs.Ytghnmmfkckneaaa.M
