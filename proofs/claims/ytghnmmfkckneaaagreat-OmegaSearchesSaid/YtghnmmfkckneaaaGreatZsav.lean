/-
  Walks in my logic: Begin and Advance of layer 28 (omega), where the search may go on.
  Walk in my logic: SameSearch of the reference of layer 28, of a search and itself.
-/
import Derived.Test.YtghnmmfkckneaaaGreatZsas
import Derived.Test.YtghnmmfkckneaaaGreatZsao
import Derived.Test.YtghnmmfkckneaaaGreatZsat
import Derived.Test.YtghnmmfkckneaaaGreatZsau
namespace Go.Proofs.YtghnmmfkckneaaaGreat.M
open Go.RowKit
set_option linter.unusedVariables false
set_option maxRecDepth 100000
set_option maxHeartbeats 32000000
attribute [local simp] ints rows scal wr64 wr8
set_option linter.unusedSimpArgs false

def srV (p : Nat) (N : List Nat) (st : Nat) (fo dn : Bool) : AV := .agg [.t p (.sl 1 (idT N)), .t 2 (.int .i64 (st : Nat)), .t 2 (.bool fo), .t 2 (.bool dn)]
def srO (c : AV) (st : Nat) (fo dn : Bool) : AObj := .box 51 [c, .t 2 (.int .i64 (st : Nat)), .t 2 (.bool fo), .t 2 (.bool dn)]
theorem tsSearch (h : 51 < Tryz.prog.types.size) : (Tryz.prog.types[51]'h).size = 4 := by rfl
theorem hemptyS (pa pb : List (Int × Int)) (R : List (List Int)) (hRl : R.length ≤ 1000) (tb : List (List Int)) (T : Nat → Nat → Nat) (n : Nat) (one : Int) (u : Nat → Bool) (N : List Nat) (hNl : N.length = R.length) :
  FnK Tryz.prog 35 [.ptr 0 0 5] [huO pa pb R 1 2, mcO tb T n one u, nxO N] (.t 2 (.bool (empB R))) [huO pa pb R 1 2, mcO tb T n one u, nxO N] [1, 2] := by
 have h1 := empCon_fn R hRl
 refine fn_introKG [(1, .ptr 1 0 13), (2, .own 2 R.length)] (fun j p hp => ?_) Tryz.func35 rfl (by simp [Tryz.f35]) ?_
 ·match j with
  | 0 => injection hp with hp; subst hp; exact .inl ⟨13, _, _, _, _, rfl, rfl, by simp, rfl, by simp⟩
  | 1 => injection hp with hp; subst hp; exact .inr ⟨R.length, _, _, _, _, _, _, _, _, rfl, rfl, by simp [idT, hNl], rfl, by simp [idT, hNl]⟩
  | j + 2 => simp at hp
 rw [show Tryz.f35.ntmps = 8 from rfl, show Tryz.f35.results = #[.tmp 2] from rfl]
 refine rgS fun K hK => ?_
 simp (disch := omega)
 and_intros <;> try first | apply hK | omega | rfl | simp <;> omega
 refine rgS fun K hK => ?_
 simp (disch := omega) [huO]
 (repeat' apply And.intro)
 all_goals (try omega)
 refine callO (h1) rfl rfl rfl rfl (by kernel_rfl) (by simp) ?_ ?_
 ·simp
 simp (disch := omega)
 and_intros <;> try first | apply hK | omega | rfl | simp <;> omega
 refine awp_ret ?_
 refine ⟨⟨.inr rfl, _, [(0, some 0), (1, some 1), (2, some 2)], (by first | rfl | (simp [tpO, huO, mcO, mcC_wk, nxO, pgT]; rfl)), ?_, ?_, ?_, ?_⟩, ?_⟩
 all_goals try simp [tpO, huO, mcO, mcC_wk, nxO, pgT]
theorem begin_fn (tb : List (List Int)) (set : List Int) (a b : Tm) (hs : set.length ≤ 100000) (hE0 : huErr tb set a b = 0) :
  FnA Tryz.prog 23 [.t 1 (rows tb), .t 0 (ints set), idV 0 a b] (.tup [srV 1 (List.replicate (rngL (tabOf tb) set a b).length 0) 0 false (empB (rngL (tabOf tb) set a b)), .t 2 (.int .i64 0)]) := by
 have hh := (newHunt_all tb set a b hs).2 hE0
 obtain ⟨v1, hc, e3, e6⟩ := huErr_0 hE0
 have hRl := rngL_len (tabOf tb) set a b
 have hga := gr_6 a (val_ok e3.1).1
 have hgb := gr_6 b (val_ok e3.2).1
 generalize rngL (tabOf tb) set a b = R at hh hRl ⊢
 generalize useP [a.cmp, b.cmp] zU = U at hh ⊢
 generalize a.cmp = pa at hh
 generalize b.cmp = pb at hh
 generalize idI (tabOf tb) tb.length = one at hh
 have hEm := hemptyS pa pb R (by omega) tb (tabOf tb) tb.length one U (List.replicate R.length 0) (by simp)
 refine fn_intro Tryz.func23 rfl (by simp [Tryz.f23]) ?_
 rw [show Tryz.f23.ntmps = 28 from rfl, show Tryz.f23.results = #[.cell 6 51, .tmp 7] from rfl]
 refine rgS fun K hK => ?_
 simp (disch := omega) [idV]
 and_intros <;> try first | apply hK | omega | rfl | simp <;> omega
 refine rgS fun K hK => ?_
 simp (disch := omega) [tsIdent]
 (repeat' apply And.intro)
 all_goals (try omega)
 refine call_rule (caps := []) (hh) [] [6000000, 6000001, 6000002] 1 rfl rfl rfl rfl (by kernel_rfl) (by simp) ?_ ?_ (by simp) rfl (by simp) ⟨.inl ⟨by omega, by omega⟩, .inl ⟨by omega, by omega⟩, .inl ⟨by omega, by omega⟩, trivial⟩ (by simp [idV, huO, mcO, nxO]) ?_
 ·simp [idV, huO, mcO, nxO]
 ·trivial
 simp (disch := omega) [huO, mcO, mcC_out, nxO]
 and_intros <;> try first | apply hK | omega | rfl | simp <;> omega
 refine awp_weak (σ' := mkS [(6, .ptr 3 0 4), (8, .ptr 0 0 5), (9, .t 2 (.int .i64 0))] [(0, huO pa pb R 1 2), (1, mcO tb (tabOf tb) tb.length one U), (2, nxO (List.replicate R.length 0)), (3, .box 51 [.t 2 (.sl 0 []), .t 2 (.int .i64 0), .t 2 (.bool false), .t 2 (.bool false)])] 4 28 [.any, .any, .any]) ?_ ?_
 ·refine wk_list [(0, some 6000000), (1, some 6000001), (2, some 6000002), (3, some 1000000)] rfl ?_ ?_ ?_ ?_
  all_goals try simp [huO, mcO, mcC_wk, mcC_out, nxO, pgT]
 refine awp_seq ?_
 refine rgS fun K hK => ?_
 simp (disch := omega)
 and_intros <;> try first | apply hK | omega | rfl | simp <;> omega
 refine condF (by simp <;> omega) ?_
 refine awp_skip ?_
 show awp _ _ _ _
 refine awp_seqD (by kernel_rfl) (fun K hK => ?_)
 simp (disch := omega) [huO, mcO, nxO, tsSearch]
 (repeat' apply And.intro)
 all_goals (try omega)
 refine call_ruleDS (caps := []) (hEm) [0, 1, 2] 1 rfl rfl rfl rfl rfl (by kernel_rfl) (by simp) ?_ ?_ (by simp) rfl ⟨.inr (.inl ⟨rfl, 0, _, _, _, _, _, rfl, rfl, (by first | rfl | simp [huO, mcO, mcC_in, mcC_out, nxO, pgT]), rfl, (by first | rfl | simp [huO, mcO, mcC_in, mcC_out, nxO, pgT])⟩), .inr (.inr ⟨rfl, by simp, by simp [huO, mcO, mcC_in, mcC_out, nxO, pgT]⟩), .inr (.inr ⟨rfl, by simp, by simp [huO, mcO, mcC_in, mcC_out, nxO, pgT]⟩), trivial⟩ (by simp [huO, mcO, mcC_in, mcC_out, nxO, pgT]) ?_ ?_
 ·simp [huO, mcO, mcC_in, mcC_out, nxO, pgT]
 ·simp [huO, mcO, mcC_in, mcC_out, nxO, pgT]
 ·simp [sameL, huO, mcO, mcC_in, mcC_out, nxO, pgT]
 simp (disch := omega) [huO, mcO, mcC_out, nxO, tsSearch]
 and_intros <;> try first | apply hK | (show chkD _ _ = true; kernel_rfl) | omega | rfl | simp <;> omega
 refine awp_ret ?_
 refine ⟨⟨.inr rfl, _, [], (by first | rfl | (simp [tpO, srV, nxO, idV, tsSearch]; rfl)), ?_, ?_, ?_, ?_⟩, ?_⟩
 all_goals try simp [tpO, srV, nxO, idV, tsSearch]
structure FOk (R : List (List Int)) (N : List Nat) : Prop where
 len : N.length = R.length
 lt : ∀ i (h : i < R.length) (h2 : i < N.length), (N[i] : Int) < max ((R[i].length : Nat) : Int) 1
theorem NOk.fok {R : List (List Int)} {N : List Nat} (h : NOk R N) : FOk R N := ⟨h.len, fun i hi h2 => by
 obtain ⟨h1, h3, -⟩ := h.at hi
 omega⟩
theorem zero_fok (R : List (List Int)) : FOk R (List.replicate R.length 0) := ⟨by simp, fun i hi h2 => by
 rw [List.getElem_replicate]
 omega⟩
theorem hfits_fn (pa pb : List (Int × Int)) (R : List (List Int)) (hRl : R.length ≤ 1000) (hRL : ∀ l ∈ R, l.length ≤ 100000) (tb : List (List Int)) (T : Nat → Nat → Nat) (n : Nat) (one : Int) (u : Nat → Bool) (M N : List Nat) (hN : FOk R N) (st : Nat) (hst : st ≤ 1000000000) (fo dn : Bool) (hfd : fo = true → dn = true) :
  FnS Tryz.prog 58 [.ptr 0 0 5, srV 0 N st fo dn] [huO pa pb R 1 2, mcO tb T n one u, nxO M] (.t 2 (.bool true)) [huO pa pb R 1 2, mcO tb T n one u, nxO M] := by
 have hNl := hN.len
 have hil : (idT N).length = N.length := by simp [idT]
 refine fn_intro Tryz.func58 rfl (by simp [Tryz.f58]) ?_
 rw [show Tryz.f58.ntmps = 59 from rfl, show Tryz.f58.results = #[.tmp 4] from rfl]
 refine rgS fun K hK => ?_
 simp (disch := omega) [srV]
 and_intros <;> try first | apply hK | omega | rfl | simp <;> omega
 refine awp_weak (σ' := mkS [(0, .ptr 0 0 5), (3, .ptr 3 0 4)] [(0, huO pa pb R 1 2), (1, mcO tb T n one u), (2, nxO M), (3, srO (.t 0 (.sl 1 (idT N))) st fo dn)] 4 59 [.ptr 0 0 5, .any]) ?_ ?_
 ·refine wk_list [(0, some 0), (1, some 1), (2, some 2), (3, some 3)] rfl ?_ ?_ ?_ ?_
  all_goals try simp [huO, mcO, mcC_wk, mcC_out, nxO, pgT, srO]
 have h1 : ¬ ((4611686018427387904 : Int) < (st : Int)) := by omega
 have h2 : ¬ ((st : Int) < 0) := by omega
 refine awp_seq (awp_mono (Q := fun e σ => e = Exit.normal ∧ Wk σ (mkS [(0, .ptr 0 0 5), (3, .ptr 3 0 4)] [(0, huO pa pb R 1 2), (1, mcO tb T n one u), (2, nxO M), (3, srO (.t 0 (.sl 1 (idT N))) st fo dn)] 4 59 [.ptr 0 0 5, .any])) ?_ ?_)
 ·cases fo with
  | false =>
   refine awp_seqD (by kernel_rfl) (fun K hK => ?_)
   simp (disch := omega) [huO, srO, hil, hNl, h1, h2]
   and_intros <;> try first | apply hK | (show chkD _ _ = true; kernel_rfl) | omega | rfl | simp <;> omega
   refine condF (by simp <;> omega) ?_
   refine awp_skip ?_
   refine ⟨rfl, ?_⟩
   refine wk_list [(0, some 0), (1, some 1), (2, some 2), (3, some 3)] rfl ?_ ?_ ?_ ?_
   all_goals try simp [huO, mcO, mcC_wk, mcC_out, nxO, pgT, srO]
  | true =>
   obtain rfl : dn = true := hfd rfl
   refine awp_seqD (by kernel_rfl) (fun K hK => ?_)
   simp (disch := omega) [huO, srO, hil, hNl, h1, h2]
   and_intros <;> try first | apply hK | (show chkD _ _ = true; kernel_rfl) | omega | rfl | simp <;> omega
   refine condF (by simp <;> omega) ?_
   refine awp_skip ?_
   refine ⟨rfl, ?_⟩
   refine wk_list [(0, some 0), (1, some 1), (2, some 2), (3, some 3)] rfl ?_ ?_ ?_ ?_
   all_goals try simp [huO, mcO, mcC_wk, mcC_out, nxO, pgT, srO]
 rintro e σ ⟨rfl, hw⟩
 refine awp_weak hw ?_
 clear hw
 show awp _ _ _ _
 refine awp_seq ?_
 refine rgS fun K hK => ?_
 simp (disch := omega) [srO, tsSearch, hil]
 and_intros <;> try first | apply hK | omega | rfl | simp <;> omega
 refine awp_block ?_
 refine awp_loop (fun k : Nat => mkS [(0, .ptr 0 0 5), (36, .t 0 (.sl 1 (idT N))), (37, .t 2 (.int .i64 N.length)), (38, .t 2 (.int .i64 k))] [(0, huO pa pb R 1 2), (1, mcO tb T n one u), (2, nxO M)] 3 59 [.ptr 0 0 5, .any]) (fun k => k ≤ N.length) (fun k => N.length - k) ?_ ?_
 ·refine ⟨0, by omega, ?_⟩
  refine wk_list [(0, some 0), (1, some 1), (2, some 2)] rfl ?_ ?_ ?_ ?_
  all_goals try simp [huO, mcO, mcC_wk, mcC_out, nxO, pgT, hil]
 intro k hk
 refine rgS fun K hK => ?_
 simp (disch := omega)
 and_intros <;> try first | apply hK | omega | rfl | simp <;> omega
 refine awp_seq ?_
 by_cases hkl : k < N.length
 case neg =>
  obtain rfl : k = N.length := by omega
  refine condF (by simp <;> omega) ?_
  refine awp_exit ?_
  show awp _ _ _ _
  refine rgS fun K hK => ?_
  simp (disch := omega)
  and_intros <;> try first | apply hK | omega | rfl | simp <;> omega
  refine awp_ret ?_
  refine ⟨⟨.inr rfl, _, [(0, some 0), (1, some 1), (2, some 2)], (by first | rfl | (simp [tpO, huO, mcO, mcC_wk, nxO, pgT, srV]; rfl)), ?_, ?_, ?_, ?_⟩, ?_⟩
  all_goals try simp [tpO, huO, mcO, mcC_wk, nxO, pgT, srV]
 have hkR : k < R.length := by omega
 have hlt := hN.lt k hkR hkl
 have hge : (idT N)[k]? = some (.int .i64 (N[k] : Nat)) := by unfold idT; rw [List.getElem?_map, List.getElem?_eq_getElem hkl]; rfl
 have hRk := hRL R[k] (List.getElem_mem hkR)
 obtain ⟨x, hx⟩ : ∃ x, x = N[k] := ⟨_, rfl⟩
 rw [← hx] at hge hlt
 have hx0 : ¬ ((x : Int) < 0) := by omega
 refine condT (by simp [hkl] <;> omega) ?_
 refine awp_skip ?_
 show awp _ _ _ _
 refine awp_seq ?_
 refine awp_block ?_
 have hge' : ∀ h, (idT N)[k]'h = .int .i64 (x : Nat) := fun h => (List.getElem?_eq_some_iff.1 hge).2
 refine rgS fun K hK => ?_
 simp (disch := omega) [hkl, hge, hge']
 and_intros <;> try first | apply hK | omega | rfl | simp <;> omega
 refine awp_weak (σ' := mkS [(0, .ptr 0 0 5), (5, .t 2 (.int .i64 k)), (6, .t 2 (.int .i64 x)), (36, .t 0 (.sl 1 (idT N))), (37, .t 2 (.int .i64 N.length)), (38, .t 2 (.int .i64 k))] [(0, huO pa pb R 1 2), (1, mcO tb T n one u), (2, nxO M)] 3 59 [.ptr 0 0 5, .any]) ?_ ?_
 ·refine wk_list [(0, some 0), (1, some 1), (2, some 2)] rfl ?_ ?_ ?_ ?_
  all_goals try simp [huO, mcO, mcC_wk, mcC_out, nxO, pgT, hge', lvT]
 by_cases hL1 : 1 < R[k].length
 ·have hx1 : ¬ R[k].length ≤ x := by omega
  refine rgS fun K hK => ?_
  simp (disch := omega) [huO, hkR, hx0, hL1, hx1]
  and_intros <;> try first | apply hK | omega | rfl | simp <;> omega
  refine condF (by simp <;> omega) ?_
  refine awp_skip ?_
  show awp _ _ _ _
  refine rgL fun K hK => ?_
  simp (disch := omega)
  (repeat' first | apply hK | apply And.intro) <;> try first | omega | rfl | (simp <;> omega)
  refine ⟨k + 1, by omega, by omega, ?_⟩
  refine wk_list [(0, some 0), (1, some 1), (2, some 2)] rfl ?_ ?_ ?_ ?_
  all_goals try simp [huO, mcO, mcC_wk, mcC_out, nxO, pgT]
 ·have hx2 : x = 0 := by omega
  refine rgS fun K hK => ?_
  simp (disch := omega) [huO, hkR, hx2, hL1]
  and_intros <;> try first | apply hK | omega | rfl | simp <;> omega
  refine condF (by simp <;> omega) ?_
  refine awp_skip ?_
  show awp _ _ _ _
  refine rgL fun K hK => ?_
  simp (disch := omega)
  (repeat' first | apply hK | apply And.intro) <;> try first | omega | rfl | (simp <;> omega)
  refine ⟨k + 1, by omega, by omega, ?_⟩
  refine wk_list [(0, some 0), (1, some 1), (2, some 2)] rfl ?_ ?_ ?_ ?_
  all_goals try simp [huO, mcO, mcC_wk, mcC_out, nxO, pgT]
def srQ (p : Nat) (q : Nat × Bool × Bool × List Nat) : AV := srV p q.2.2.2 q.1 q.2.1 q.2.2.1
theorem lvs_idT (p : Nat) (N : List Nat) : lvs p (idT N) = 2 := by
 unfold lvs
 rw [if_pos]
 simp [idT]
theorem srD_ok {v1 v2 : List Nat → Nat} {R : List (List Int)} (B : Nat) : FOk R (srD v1 v2 R B).2.2.2 ∧ ((srD v1 v2 R B).2.2.1 = false → NOk R (srD v1 v2 R B).2.2.2) ∧ (srD v1 v2 R B).1 ≤ B := by
 unfold srD
 by_cases h : empB R = true
 ·rw [if_pos h]
  exact ⟨zero_fok R, (fun e => Bool.noConfusion e), Nat.zero_le _⟩
 ·rw [if_neg h]
  obtain ⟨h1, -, h2⟩ := runH_ok (v1 := v1) (v2 := v2) B 0 (zero_ok (by simpa using h))
  exact ⟨h1.fok, fun _ => h1, by omega⟩
theorem advance_fn (tb : List (List Int)) (set : List Int) (a b : Tm) (hs : set.length ≤ 100000) (hE0 : huErr tb set a b = 0) (B n : Nat) (hB : B ≤ 10000000) (hn1 : 1 ≤ n) (hn2 : n ≤ 1048576) :
  FnA Tryz.prog 27 [.t 1 (rows tb), .t 0 (ints set), idV 0 a b, srQ 0 (srD (asV (tabOf tb) tb.length (rngL (tabOf tb) set a b) a) (asV (tabOf tb) tb.length (rngL (tabOf tb) set a b) b) (rngL (tabOf tb) set a b) B), .t 2 (.int .i64 (n : Nat))]
   (.tup [srQ 1 (srD (asV (tabOf tb) tb.length (rngL (tabOf tb) set a b) a) (asV (tabOf tb) tb.length (rngL (tabOf tb) set a b) b) (rngL (tabOf tb) set a b) (B + n)), .t 2 (.int .i64 0)]) := by
 have hh := (newHunt_all tb set a b hs).2 hE0
 obtain ⟨v1, hc, e3, e6⟩ := huErr_0 hE0
 have ht := TbL.of v1
 obtain ⟨hl0, hl4⟩ := vErr_len v1
 have hRl := rngL_len (tabOf tb) set a b
 have hga := gr_6 a (val_ok e3.1).1
 have hgb := gr_6 b (val_ok e3.2).1
 have hH := hrun_of ht.lt (vErr_asc v1) (rngL_in hc.rng a b) e3.1 e3.2 hRl e6
 have hRL := rngL_le (T := tabOf tb) (set := set) a b
 have hRL : ∀ l ∈ rngL (tabOf tb) set a b, l.length ≤ 100000 := fun l hl => by have := hRL l hl; omega
 generalize rngL (tabOf tb) set a b = R at hh hRl hH hRL ⊢
 generalize useP [a.cmp, b.cmp] zU = U at hh hH ⊢
 generalize asV (tabOf tb) tb.length R a = va at hH ⊢
 generalize asV (tabOf tb) tb.length R b = vb at hH ⊢
 generalize a.cmp = pa at hh hH
 generalize b.cmp = pb at hh hH
 generalize idI (tabOf tb) tb.length = one at hh hH
 rw [srD_add]
 obtain ⟨hF, hNk, hst⟩ := srD_ok (v1 := va) (v2 := vb) (R := R) B
 have hfd := srD_fd (v1 := va) (v2 := vb) (R := R) B
 have hnd := fun h => srD_nd (v1 := va) (v2 := vb) (R := R) (B := B) h
 generalize srD va vb R B = S at hF hNk hst hfd hnd ⊢
 obtain ⟨st, fo, dn, N⟩ := S
 simp only at hF hNk hst hfd hnd
 have hNl2 := hF.len
 have hil : (idT N).length = R.length := by simp [idT, hF.len]
 have hiz : (idT (List.replicate R.length 0)).length = R.length := by simp [idT]
 have hlv := lvs_idT 0 N
 have hFi := hfits_fn pa pb R (by omega) hRL tb (tabOf tb) tb.length one U (List.replicate R.length 0) N hF st (by omega) fo dn hfd
 refine fn_intro Tryz.func27 rfl (by simp [Tryz.f27]) ?_
 rw [show Tryz.f27.ntmps = 72 from rfl, show Tryz.f27.results = #[.cell 10 51, .tmp 11] from rfl]
 refine rgS fun K hK => ?_
 simp (disch := omega) [idV, srQ, srV]
 and_intros <;> try first | apply hK | omega | rfl | simp <;> omega
 refine rgS fun K hK => ?_
 simp (disch := omega) [tsIdent]
 (repeat' apply And.intro)
 all_goals (try omega)
 refine call_rule (caps := []) (hh) [] [7000000, 7000001, 7000002] 1 rfl rfl rfl rfl (by kernel_rfl) (by simp) ?_ ?_ (by simp) rfl (by simp) ⟨.inl ⟨by omega, by omega⟩, .inl ⟨by omega, by omega⟩, .inl ⟨by omega, by omega⟩, trivial⟩ (by simp [idV, huO, mcO, nxO]) ?_
 ·simp [idV, huO, mcO, nxO]
 ·trivial
 simp (disch := omega) [huO, mcO, mcC_out, nxO]
 and_intros <;> try first | apply hK | omega | rfl | simp <;> omega
 refine awp_weak (σ' := mkS [(4, .t 2 (.int .i64 (n : Nat))), (8, .ptr 3 0 4), (10, .ptr 4 0 4), (12, .ptr 0 0 5), (13, .t 2 (.int .i64 0))] [(0, huO pa pb R 1 2), (1, mcO tb (tabOf tb) tb.length one U), (2, nxO (List.replicate R.length 0)), (3, srO (.t 0 (.sl 1 (idT N))) st fo dn), (4, .box 51 [.t 2 (.sl 0 []), .t 2 (.int .i64 0), .t 2 (.bool false), .t 2 (.bool false)])] 5 72 [.any, .any, .any, .any, .any]) ?_ ?_
 ·refine wk_list [(0, some 7000000), (1, some 7000001), (2, some 7000002), (3, some 1000000), (4, some 2000000)] rfl ?_ ?_ ?_ ?_
  all_goals try simp [huO, mcO, mcC_wk, mcC_out, nxO, pgT, srO]
 refine awp_seq ?_
 refine rgS fun K hK => ?_
 simp (disch := omega)
 and_intros <;> try first | apply hK | omega | rfl | simp <;> omega
 refine condF (by simp <;> omega) ?_
 refine awp_skip ?_
 show awp _ _ _ _
 refine awp_seq ?_
 have hb1 : ¬ ((n : Int) < 1) := by omega
 have hb2 : ¬ ((1048576 : Int) < (n : Int)) := by omega
 refine rgS fun K hK => ?_
 simp (disch := omega) [hb1, hb2]
 and_intros <;> try first | apply hK | omega | rfl | simp <;> omega
 refine condF (by simp <;> omega) ?_
 refine awp_skip ?_
 show awp _ _ _ _
 refine awp_weak (σ' := mkS [(4, .t 2 (.int .i64 (n : Nat))), (8, .ptr 3 0 4), (10, .ptr 4 0 4), (12, .ptr 0 0 5)] [(0, huO pa pb R 1 2), (1, mcO tb (tabOf tb) tb.length one U), (2, nxO (List.replicate R.length 0)), (3, srO (.t 0 (.sl 1 (idT N))) st fo dn), (4, .box 51 [.t 2 (.sl 0 []), .t 2 (.int .i64 0), .t 2 (.bool false), .t 2 (.bool false)])] 5 72 [.any, .any, .any, .any, .any]) ?_ ?_
 ·refine wk_list [(0, some 0), (1, some 1), (2, some 2), (3, some 3), (4, some 4)] rfl ?_ ?_ ?_ ?_
  all_goals try simp [huO, mcO, mcC_wk, mcC_out, nxO, pgT, srO]
 refine awp_seq ?_
 refine rgS fun K hK => ?_
 simp (disch := omega) [srO, tsSearch]
 (repeat' apply And.intro)
 all_goals (try omega)
 refine call_rule (caps := []) (hFi) [0, 1, 2] [0, 2000005, 2000006] 1 rfl rfl rfl rfl (by kernel_rfl) (by simp) ?_ ?_ (by simp) rfl (by simp) ⟨.inr ⟨rfl, 0, _, _, _, _, _, rfl, rfl, (by first | rfl | simp [huO, mcO, mcC_in, mcC_out, nxO, pgT, srV]), rfl, (by first | rfl | simp [huO, mcO, mcC_in, mcC_out, nxO, pgT, srV])⟩, .inl ⟨by omega, by omega⟩, .inl ⟨by omega, by omega⟩, trivial⟩ (by simp [huO, mcO, mcC_in, mcC_out, nxO, pgT, srV]) ?_
 ·simp [huO, mcO, mcC_in, mcC_out, nxO, pgT, srV]
 ·simp [huO, mcO, mcC_in, mcC_out, nxO, pgT, srV]
 simp (disch := omega) [huO, mcO, mcC_out, nxO]
 and_intros <;> try first | apply hK | omega | rfl | simp <;> omega
 refine condF (by simp <;> omega) ?_
 refine awp_skip ?_
 show awp _ _ _ _
 refine awp_weak (σ' := mkS [(4, .t 2 (.int .i64 (n : Nat))), (8, .ptr 3 0 4), (10, .ptr 4 0 4), (12, .ptr 0 0 5)] [(0, huO pa pb R 1 2), (1, mcO tb (tabOf tb) tb.length one U), (2, nxO (List.replicate R.length 0)), (3, srO (.t 0 (.sl 1 (idT N))) st fo dn), (4, .box 51 [.t 2 (.sl 0 []), .t 2 (.int .i64 0), .t 2 (.bool false), .t 2 (.bool false)])] 5 72 [.any, .any, .any, .any, .any]) ?_ ?_
 ·refine wk_list [(0, some 0), (1, some 2000005), (2, some 2000006), (3, some 3), (4, some 4)] rfl ?_ ?_ ?_ ?_
  all_goals try simp [huO, mcO, mcC_wk, mcC_out, nxO, pgT, srO]
 refine awp_seqD (by kernel_rfl) (fun K hK => ?_)
 simp (disch := omega) [huO, srO, nxO, hil, hiz, hlv, tsSearch]
 and_intros <;> try first | apply hK | (show chkD _ _ = true; kernel_rfl) | omega | rfl | simp <;> omega
 refine rgS fun K hK => ?_
 simp (disch := omega) [huO, srO, nxO, hil, hiz, hlv, tsSearch]
 and_intros <;> try first | apply hK | omega | rfl | simp <;> omega
 refine awp_weak (σ' := mkS [(4, .t 2 (.int .i64 (n : Nat))), (8, .ptr 3 0 4), (10, .ptr 4 0 4), (12, .ptr 0 0 5)] [(0, huO pa pb R 1 2), (1, mcO tb (tabOf tb) tb.length one U), (2, nxO N), (3, srO (.own 2 R.length) st fo dn), (4, .box 51 [.t 2 (.sl 0 []), .t 2 (.int .i64 0), .t 2 (.bool false), .t 2 (.bool false)])] 5 72 [.any, .any, .any, .any, .any]) ?_ ?_
 ·refine wk_list [(0, some 0), (1, some 1), (2, some 2), (3, some 3), (4, some 4)] rfl ?_ ?_ ?_ ?_
  all_goals try simp [huO, mcO, mcC_wk, mcC_out, nxO, pgT, srO]
 refine awp_seq ?_
 refine awp_block ?_
 refine rgS fun K hK => ?_
 simp (disch := omega) [srO]
 (repeat' first | apply hK | apply And.intro) <;> try first | omega | rfl | (simp <;> omega)
 cases dn with
 | true =>
  rw [if_pos rfl]
  refine condT (by simp <;> omega) ?_
  refine awp_skip ?_
  show awp _ _ _ _
  refine rgS fun K hK => ?_
  simp (disch := omega) [srO, tsSearch]
  and_intros <;> try first | apply hK | omega | rfl | simp <;> omega
  refine awp_ret ?_
  refine ⟨⟨.inr rfl, _, [], (by first | rfl | (simp [tpO, srQ, srV, nxO, idV, tsSearch, hNl2]; rfl)), ?_, ?_, ?_, ?_⟩, ?_⟩
  all_goals try simp [tpO, srQ, srV, nxO, idV, tsSearch, hNl2]
 | false =>
  rw [if_neg (fun h => Bool.noConfusion h)]
  obtain ⟨hem, -, rfl⟩ := hnd rfl
  have hNN := hNk rfl
  have hEm := hemptyS pa pb R (by omega) tb (tabOf tb) tb.length one U N hF.len
  rw [hem] at hEm
  have hRun := hrunK pa pb R (by omega) hRL tb (tabOf tb) tb.length ht (vErr_asc v1) (by omega) one U va vb hH n (by omega) N hNN
  have hrn := (runH_ok (v1 := va) (v2 := vb) n 0 hNN).2.2
  have hMl := (runH_ok (v1 := va) (v2 := vb) n 0 hNN).1.len
  generalize runH va vb R n 0 N = x at hRun hrn hMl ⊢
  obtain ⟨st2, fo2, dn2, M⟩ := x
  simp only at hRun hrn hMl ⊢
  refine condF (by simp <;> omega) ?_
  refine rgS fun K hK => ?_
  simp (disch := omega)
  (repeat' apply And.intro)
  all_goals (try omega)
  refine call_ruleK (caps := []) (hEm) [0, 1, 2] [0, 1, 2] 1 rfl rfl rfl rfl (by kernel_rfl) (by simp) ?_ ?_ (by simp) rfl (by simp) ⟨.inr (.inl ⟨rfl, 0, _, _, _, _, _, rfl, rfl, (by first | rfl | simp [huO, mcO, mcC_in, mcC_out, nxO, pgT]), rfl, (by first | rfl | simp [huO, mcO, mcC_in, mcC_out, nxO, pgT])⟩), .inr (.inr ⟨rfl, by simp, by simp [huO, mcO, mcC_in, mcC_out, nxO, pgT]⟩), .inr (.inr ⟨rfl, by simp, by simp [huO, mcO, mcC_in, mcC_out, nxO, pgT]⟩), trivial⟩ (by simp [huO, mcO, mcC_in, mcC_out, nxO, pgT]) ?_
  ·simp [huO, mcO, mcC_in, mcC_out, nxO, pgT]
  ·simp [huO, mcO, mcC_in, mcC_out, nxO, pgT]
  simp (disch := omega) [huO, mcO, mcC_out, nxO]
  and_intros <;> try first | apply hK | omega | rfl | simp <;> omega
  refine condF (by simp <;> omega) ?_
  refine rgS fun K hK => ?_
  simp (disch := omega)
  and_intros <;> try first | apply hK | omega | rfl | simp <;> omega
  refine rgS fun K hK => ?_
  simp (disch := omega)
  (repeat' apply And.intro)
  all_goals (try omega)
  refine call_ruleK (caps := []) (hRun) [0, 1, 2] [0, 9000005, 2] 1 rfl rfl rfl rfl (by kernel_rfl) (by simp) ?_ ?_ (by simp) rfl (by simp) ⟨.inr (.inl ⟨rfl, 0, _, _, _, _, _, rfl, rfl, (by first | rfl | simp [huO, mcO, mcC_in, mcC_out, nxO, pgT]), rfl, (by first | rfl | simp [huO, mcO, mcC_in, mcC_out, nxO, pgT])⟩), .inl ⟨by omega, by omega⟩, .inr (.inr ⟨rfl, by simp, by simp [huO, mcO, mcC_in, mcC_out, nxO, pgT]⟩), trivial⟩ (by simp [huO, mcO, mcC_in, mcC_out, nxO, pgT]) ?_
  ·simp [huO, mcO, mcC_in, mcC_out, nxO, pgT]
  ·simp [huO, mcO, mcC_in, mcC_out, nxO, pgT]
  simp (disch := omega) [huO, mcO, mcC_out, nxO, srO]
  and_intros <;> try first | apply hK | omega | rfl | simp <;> omega
  refine rgL fun K hK => ?_
  simp (disch := omega) [srO]
  and_intros <;> try first | apply hK | omega | rfl | simp <;> omega
  show awp _ _ _ _
  refine rgS fun K hK => ?_
  simp (disch := omega) [srO, tsSearch]
  and_intros <;> try first | apply hK | omega | rfl | simp <;> omega
  refine awp_ret ?_
  refine ⟨⟨.inr rfl, _, [], (by first | rfl | (simp [tpO, srQ, srV, nxO, idV, tsSearch, hMl]; rfl)), ?_, ?_, ?_, ?_⟩, ?_⟩
  all_goals try simp [tpO, srQ, srV, nxO, idV, tsSearch, hMl]

set_option maxRecDepth 100000
set_option maxHeartbeats 32000000
attribute [local simp] ints rows scal wr64 wr8
set_option linter.unusedSimpArgs false

theorem idT_ints (N : List Nat) : ints (N.map fun (x : Nat) => (x : Int)) = .sl 1 (idT N) := by
 unfold ints idT
 rw [List.map_map]
 rfl
theorem sameS_fn (N : List Nat) (hN : N.length ≤ 100000) (st : Nat) (fo dn : Bool) : FnA Tryz.prog 26 [srV 0 N st fo dn, srV 0 N st fo dn] (.t 2 (.bool true)) := by
 have hS := same_fn (N.map fun (x : Nat) => (x : Int)) (N.map fun (x : Nat) => (x : Int)) (by simp; omega)
 rw [decide_eq_true rfl, idT_ints] at hS
 refine fn_intro Tryz.func26 rfl (by simp [Tryz.f26]) ?_
 rw [show Tryz.f26.ntmps = 31 from rfl, show Tryz.f26.results = #[.tmp 4] from rfl]
 refine rgS fun K hK => ?_
 simp (disch := omega) [srV]
 and_intros <;> try first | apply hK | omega | rfl | simp <;> omega
 refine awp_weak (σ' := mkS [(2, .ptr 0 0 4), (3, .ptr 1 0 4)] [(0, srO (.t 0 (.sl 1 (idT N))) st fo dn), (1, srO (.t 0 (.sl 1 (idT N))) st fo dn)] 2 31 [.any, .any]) ?_ ?_
 ·refine wk_list [(0, some 0), (1, some 1000000)] rfl ?_ ?_ ?_ ?_
  all_goals try simp [srO, srV]
 refine rgS fun K hK => ?_
 simp (disch := omega) [srO, tsSearch]
 (repeat' apply And.intro)
 all_goals (try omega)
 refine callO (hS) rfl rfl rfl rfl (by kernel_rfl) (by simp) ?_ ?_
 ·simp
 simp (disch := omega) [srO]
 and_intros <;> try first | apply hK | omega | rfl | simp <;> omega
 refine awp_ret ?_
 refine ⟨⟨.inr rfl, _, [], rfl, trivial, trivial, by simp [srV], ?_⟩, by simp [srV]⟩
 simp [srV]
end Go.Proofs.YtghnmmfkckneaaaGreat.M
