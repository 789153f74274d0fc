/-
  Walk in my logic: the law DivideMaps.
  Walk in my logic: the law DivideHom.
-/
import Derived.Test.YtgghmjnbkbiffaaZqbi
import Derived.Test.YtgghmjnbkbiffaaZqbj
namespace Go.Proofs.Ytgghmjnbkbiffaa.M
open Go.RowKit
set_option linter.unusedVariables false
set_option linter.unusedSimpArgs false

theorem maps_fn (t : List (List Int)) (gens : List Int) (u : List (List Int)) (f : List Int) (hl : gens.length ≤ 100000) (hu : u.length ≤ 1000) :
    ∃ A B E, A = natsOf (dvA t gens u f) ∧ B = natsOf (Go.Proofs.Ytgghmjnbkbiffaa.dvB t gens u f) ∧ E = dvErr t gens u f ∧ A.length ≤ 1000 ∧ B.length ≤ 1000 ∧
      FnA Try.prog 41 [.t 0 (rows t), .t 0 (ints gens), .t 0 (rows u), .t 0 (ints f)] (.tup [.t 2 (ints A), .t 2 (ints B), .t 2 (.int .i64 E)]) ∧
      FnA Try.prog 42 [.t 0 (rows t), .t 0 (ints gens), .t 0 (rows u), .t 0 (ints f)] (.tup [.t 2 (ints A), .t 2 (ints B), .t 2 (.int .i64 E)]) := by
  refine ⟨_, _, _, rfl, rfl, rfl, ?_, ?_, map_fn t gens u f hl, refMap_fn t gens u f⟩
  · have := lnx_natsOf (dvA t gens u f)
    simp only [lnx] at this
    rw [this]
    unfold dvA
    split
    · have := dvEl_len (tabOf t) (tabOf u) (gpairs gens f (lnx gens)) (lnx u)
      simp only [lnx] at this ⊢
      omega
    · simp
  · have := lnx_natsOf (Go.Proofs.Ytgghmjnbkbiffaa.dvB t gens u f)
    simp only [lnx] at this
    rw [this]
    unfold Go.Proofs.Ytgghmjnbkbiffaa.dvB
    split
    · have := dvVal_len (tabOf t) (tabOf u) (gpairs gens f (lnx gens)) (lnx u)
      simp only [lnx] at this ⊢
      omega
    · simp
set_option maxRecDepth 100000 in
set_option maxHeartbeats 8000000 in
theorem divideMaps_fn (l : List Int) : FnA Try.prog 9 [.t 1 (ints l)] (.t 2 (.bool true)) := by
  have hnew := new_fn l
  obtain ⟨xs, hxs⟩ : ∃ xs, xs = l.take 80 := ⟨_, rfl⟩
  have hl : xs.length ≤ 80 := by rw [hxs]; simp; omega
  rw [← hxs] at hnew
  obtain ⟨v1, b1, hv1, hb1, hN1⟩ := next_fn xs 0 2 (by omega) hl (by omega)
  have hv1 := hv1 (by omega)
  obtain ⟨res1, H1, ⟨tb, gens, b2, hG, hb2, rfl, rfl⟩, hT1⟩ := table23_fn xs b1 (1 + v1) hb1 hl (by omega)
  obtain ⟨v2, b3, hv2, hb3, hN2⟩ := next_fn xs b2 2 hb2 hl (by omega)
  have hv2 := hv2 (by omega)
  obtain ⟨res2, H2, ⟨u, ugens, b4, hG2, hb4, rfl, rfl⟩, hT2⟩ := table23_fn xs b3 (1 + v2) hb3 hl (by omega)
  obtain ⟨ok1, ok2, ok3, ok4, ok5, ok6⟩ := hG.ok
  obtain ⟨uk1, uk2, uk3, uk4, uk5, uk6⟩ := hG2.ok
  obtain ⟨res3, H3, ⟨im, b5, him, -, hb5, rfl, rfl⟩, hI⟩ := images23_fn xs b4 gens.length u hb4 hl (by omega) (by omega) (by omega)
  obtain ⟨v3, b6, hv3, hb6, hN3⟩ := next_fn xs b5 4 hb5 hl (by omega)
  refine fn_intro Try.func9 rfl (by simp [Try.f9]) ?_
  rw [show Try.f9.ntmps = 77 from rfl, show Try.f9.results = #[.tmp 2] from rfl]
  refine awp_seqR (fun K hK => ?_)
  simp (maxSteps := 2000000) (disch := omega) [ints, rows, scal, wr64, wr8]
  (repeat' first | refine hK _ ?_ | apply And.intro) <;> clear hK K <;> try first | (show chkD _ _ = true; kernel_rfl) | omega | rfl | (simp; done) | (simp; omega)
  refine awp_seqR (fun K hK => ?_)
  simp (maxSteps := 2000000) (disch := omega) [ints, rows, scal, wr64, wr8]
  (repeat' apply And.intro)
  all_goals (try omega)
  refine call_rule (caps := []) (hnew) [] [2000000] 1 rfl rfl rfl rfl (by kernel_rfl) (by simp) ?_ ?_ (by simp) rfl (by simp) ⟨.inl ⟨by omega, by omega⟩, trivial⟩ (by simp [tpO]) ?_
  · simp [scal, rows, ints, tpO]
  · trivial
  simp (maxSteps := 2000000) (disch := omega) [ints, rows, scal, wr64, wr8, tpO]
  (repeat' first | refine hK _ ?_ | apply And.intro) <;> clear hK K <;> try first | (show chkD _ _ = true; kernel_rfl) | omega | rfl | (simp; done) | (simp; omega)
  refine awp_weak (σ' := mkS [(3, .ptr 0 0 2)] [(0, tpO 1 xs 0)] 1 77 [.any]) ?_ ?_
  · refine wk_list [(0, some 2000000)] rfl ?_ ?_ ?_ ?_
    all_goals try simp [ints, tpO, scal]
  refine awp_seqR (fun K hK => ?_)
  simp (maxSteps := 2000000) (disch := omega) [ints, rows, scal, wr64, wr8]
  (repeat' apply And.intro)
  all_goals (try omega)
  refine call_rule (caps := []) (hN1) [0] [0] 1 rfl rfl rfl rfl (by kernel_rfl) (by simp) ?_ ?_ (by simp) rfl (by simp) ⟨.inr ⟨rfl, 0, _, _, _, _, _, rfl, rfl, rfl, rfl, rfl⟩, trivial⟩ (by simp [tpO]) ?_
  · simp [scal, rows, ints, tpO]
  · simp [scal, rows, ints, tpO]
  simp (maxSteps := 2000000) (disch := omega) [ints, rows, scal, wr64, wr8]
  (repeat' apply And.intro)
  all_goals (try omega)
  refine call_rule (caps := []) (hT1) [0] [0] 1 rfl rfl rfl rfl (by kernel_rfl) (by simp) ?_ ?_ (by simp) rfl (by simp) ⟨.inr ⟨rfl, 0, _, _, _, _, _, rfl, rfl, rfl, rfl, rfl⟩, trivial⟩ (by simp [tpO]) ?_
  · simp [scal, rows, ints, tpO]
  · simp [scal, rows, ints, tpO]
  simp (maxSteps := 2000000) (disch := omega) [ints, rows, scal, wr64, wr8, tpO]
  (repeat' first | refine hK _ ?_ | apply And.intro) <;> clear hK K <;> try first | (show chkD _ _ = true; kernel_rfl) | omega | rfl | (simp; done) | (simp; omega)
  refine awp_seqR (fun K hK => ?_)
  simp (maxSteps := 2000000) (disch := omega) [ints, rows, scal, wr64, wr8]
  (repeat' apply And.intro)
  all_goals (try omega)
  refine call_rule (caps := []) (hN2) [0] [0] 1 rfl rfl rfl rfl (by kernel_rfl) (by simp) ?_ ?_ (by simp) rfl (by simp) ⟨.inr ⟨rfl, 0, _, _, _, _, _, rfl, rfl, rfl, rfl, rfl⟩, trivial⟩ (by simp [tpO]) ?_
  · simp [scal, rows, ints, tpO]
  · simp [scal, rows, ints, tpO]
  simp (maxSteps := 2000000) (disch := omega) [ints, rows, scal, wr64, wr8]
  (repeat' apply And.intro)
  all_goals (try omega)
  refine call_rule (caps := []) (hT2) [0] [0] 1 rfl rfl rfl rfl (by kernel_rfl) (by simp) ?_ ?_ (by simp) rfl (by simp) ⟨.inr ⟨rfl, 0, _, _, _, _, _, rfl, rfl, rfl, rfl, rfl⟩, trivial⟩ (by simp [tpO]) ?_
  · simp [scal, rows, ints, tpO]
  · simp [scal, rows, ints, tpO]
  simp (maxSteps := 2000000) (disch := omega) [ints, rows, scal, wr64, wr8, tpO]
  (repeat' first | refine hK _ ?_ | apply And.intro) <;> clear hK K <;> try first | (show chkD _ _ = true; kernel_rfl) | omega | rfl | (simp; done) | (simp; omega)
  refine awp_seqR (fun K hK => ?_)
  simp (maxSteps := 2000000) (disch := omega) [ints, rows, scal, wr64, wr8]
  (repeat' apply And.intro)
  all_goals (try omega)
  refine call_rule (caps := []) (hI) [0] [0] 1 rfl rfl rfl rfl (by kernel_rfl) (by simp) ?_ ?_ (by simp) rfl (by simp) ⟨.inr ⟨rfl, 0, _, _, _, _, _, rfl, rfl, rfl, rfl, rfl⟩, trivial⟩ (by simp [tpO]) ?_
  · simp [scal, rows, ints, tpO]
  · simp [scal, rows, ints, tpO]
  simp (maxSteps := 2000000) (disch := omega) [ints, rows, scal, wr64, wr8, tpO]
  (repeat' first | refine hK _ ?_ | apply And.intro) <;> clear hK K <;> try first | (show chkD _ _ = true; kernel_rfl) | omega | rfl | (simp; done) | (simp; omega)
  refine awp_seq (awp_mono (Q := fun e σ => e = Exit.normal ∧ ∃ u f, u.length ≤ 1000 ∧ Wk σ (mkS [(4, .t 2 (rows tb)), (5, .t 2 (ints gens)), (6, .t 2 (rows u)), (8, .t 2 (ints f))] [] 0 77 [.any])) ?_ ?_)
  · refine awp_seqR (fun K hK => ?_)
    simp (maxSteps := 2000000) (disch := omega) [ints, rows, scal, wr64, wr8]
    (repeat' apply And.intro)
    all_goals (try omega)
    refine call_rule (caps := []) (hN3) [0] [0] 1 rfl rfl rfl rfl (by kernel_rfl) (by simp) ?_ ?_ (by simp) rfl (by simp) ⟨.inr ⟨rfl, 0, _, _, _, _, _, rfl, rfl, rfl, rfl, rfl⟩, trivial⟩ (by simp [tpO]) ?_
    · simp [scal, rows, ints, tpO]
    · simp [scal, rows, ints, tpO]
    simp (maxSteps := 2000000) (disch := omega) [ints, rows, scal, wr64, wr8]
    (repeat' first | refine hK _ ?_ | apply And.intro) <;> clear hK K <;> try first | (show chkD _ _ = true; kernel_rfl) | omega | rfl | (simp; done) | (simp; omega)
    by_cases hc : (v3 : Int) = 1
    · refine awp_cond (b := true) (p := 2) (by simp [scal, hc] <;> omega) ?_
      refine awp_R (fun K hK => ?_)
      simp (maxSteps := 2000000) (disch := omega) [ints, rows, scal, wr64, wr8]
      (repeat' first | refine hK _ ?_ | apply And.intro) <;> clear hK K <;> try first | (show chkD _ _ = true; kernel_rfl) | omega | rfl | (simp; done) | (simp; omega)
      refine ⟨tb, gens, by omega, ?_⟩
      refine wk_list [] rfl ?_ ?_ ?_ ?_
      all_goals try simp [ints, rows, ints]
    · refine awp_cond (b := false) (p := 2) (by simp [scal, hc] <;> omega) ?_
      refine awp_skip ?_
      refine ⟨rfl, u, im, by omega, ?_⟩
      refine wk_list [] rfl ?_ ?_ ?_ ?_
      all_goals try simp [ints, rows, ints]
  · rintro e σ ⟨rfl, u, f, hu, hw⟩
    refine awp_weak hw ?_
    obtain ⟨A, B, E, -, -, -, hAl, hBl, hM1, hM2⟩ := maps_fn tb gens u f (by omega) hu
    have hs1 := same_fn A A (by omega)
    have hs2 := same_fn B B (by omega)
    rw [decide_eq_true rfl] at hs1 hs2
    show awp _ _ _ _
    refine awp_seqR (fun K hK => ?_)
    simp (maxSteps := 2000000) (disch := omega) [ints, rows, scal, wr64, wr8]
    (repeat' apply And.intro)
    all_goals (try omega)
    refine call_rule (caps := []) (hM1) [] [] 2 rfl rfl rfl rfl (by kernel_rfl) (by simp) ?_ trivial trivial rfl trivial trivial (by simp) ?_
    · simp [scal, rows, ints]
    simp (maxSteps := 2000000) (disch := omega) [ints, rows, scal, wr64, wr8]
    (repeat' first | refine hK _ ?_ | apply And.intro) <;> clear hK K <;> try first | (show chkD _ _ = true; kernel_rfl) | omega | rfl | (simp; done) | (simp; omega)
    refine awp_seqR (fun K hK => ?_)
    simp (maxSteps := 2000000) (disch := omega) [ints, rows, scal, wr64, wr8]
    (repeat' apply And.intro)
    all_goals (try omega)
    refine call_rule (caps := []) (hM2) [] [] 2 rfl rfl rfl rfl (by kernel_rfl) (by simp) ?_ trivial trivial rfl trivial trivial (by simp) ?_
    · simp [scal, rows, ints]
    simp (maxSteps := 2000000) (disch := omega) [ints, rows, scal, wr64, wr8]
    (repeat' first | refine hK _ ?_ | apply And.intro) <;> clear hK K <;> try first | (show chkD _ _ = true; kernel_rfl) | omega | rfl | (simp; done) | (simp; omega)
    refine awp_seqR (fun K hK => ?_)
    simp (maxSteps := 2000000) (disch := omega) [ints, rows, scal, wr64, wr8]
    (repeat' apply And.intro)
    all_goals (try omega)
    refine call_rule (caps := []) (hs1) [] [] 2 (by simp [scal, rows, ints]) rfl rfl rfl (by kernel_rfl) (by simp) ?_ trivial trivial rfl trivial trivial (by simp) ?_
    · simp [scal, rows, ints]
    simp (maxSteps := 2000000) (disch := omega) [ints, rows, scal, wr64, wr8]
    (repeat' apply And.intro)
    all_goals (try omega)
    refine call_rule (caps := []) (hs2) [] [] 2 (by simp [scal, rows, ints]) rfl rfl rfl (by kernel_rfl) (by simp) ?_ trivial trivial rfl trivial trivial (by simp) ?_
    · simp [scal, rows, ints]
    simp (maxSteps := 2000000) (disch := omega) [ints, rows, scal, wr64, wr8]
    (repeat' apply And.intro)
    all_goals (try omega)
    refine call_rule (caps := []) (known23_fn) [] [] 2 (by simp [scal, rows, ints]) rfl rfl rfl (by kernel_rfl) (by simp) ?_ trivial trivial rfl trivial trivial (by simp) ?_
    · simp [scal, rows, ints]
    simp (maxSteps := 2000000) (disch := omega) [ints, rows, scal, wr64, wr8]
    (repeat' first | refine hK _ ?_ | apply And.intro) <;> clear hK K <;> try first | (show chkD _ _ = true; kernel_rfl) | omega | rfl | (simp; done) | (simp; omega)
    refine awp_ret ?_
    refine ⟨⟨.inr rfl, _, [], rfl, trivial, trivial, by simp, ?_⟩, by simp⟩
    simp
end Go.Proofs.Ytgghmjnbkbiffaa.M

namespace Go.Proofs.Ytgghmjnbkbiffaa.M
open Go.RowKit
set_option linter.unusedVariables false
set_option linter.unusedSimpArgs false

def mpN (L : List Nat) (g : Nat → Nat) : List (T × T) := L.map fun (y : Nat) => (T.int .i64 (y : Int), T.int .i64 (g y : Int))
@[simp] theorem mpN_len (L : List Nat) (g : Nat → Nat) : (mpN L g).length = L.length := by simp [mpN]
@[simp] theorem mpN_all (L : List Nat) (g : Nat → Nat) : ((mpN L g).all fun e => kOK Try.prog 3 e.1) = true := by
  rw [List.all_eq_true]
  intro e he
  simp only [mpN, List.mem_map] at he
  obtain ⟨y, _, rfl⟩ := he
  simp [kOK]
theorem fnd_no {g : Nat → Nat} {y : Nat} : ∀ {L : List Nat}, y ∉ L → fndT (.int .i64 (y : Int)) (mpN L g) = none
  | [], _ => rfl
  | z :: L, h => by
    have h1 : ¬ (y : Int) = (z : Int) := fun e => h (by
      have : y = z := by omega
      rw [this]; simp)
    have h2 := fnd_no (g := g) (fun h' => h (List.mem_cons_of_mem _ h') : y ∉ L)
    show (if kEq (.int .i64 (y : Int)) (.int .i64 (z : Int)) then some 0 else (fndT (.int .i64 (y : Int)) (mpN L g)).map (· + 1)) = none
    rw [h2]
    simp [kEq, h1]
theorem fnd_at {g : Nat → Nat} : ∀ {L : List Nat} {j : Nat} (hj : j < L.length), L.Nodup → fndT (.int .i64 (L[j] : Int)) (mpN L g) = some j
  | [], j, hj, _ => by simp at hj
  | z :: L, 0, hj, _ => by
    show (if kEq (.int .i64 (z : Int)) (.int .i64 (z : Int)) then some 0 else _) = some 0
    simp [kEq]
  | z :: L, j + 1, hj, hn => by
    have hj' : j < L.length := by simpa using hj
    obtain ⟨h1, h2⟩ := List.nodup_cons.1 hn
    have h3 : ¬ (L[j] : Int) = (z : Int) := fun e => h1 (by
      have : z = L[j] := by omega
      rw [this]; simp)
    have h4 := fnd_at (g := g) hj' h2
    show (if kEq (.int .i64 (L[j] : Int)) (.int .i64 (z : Int)) then some 0 else (fndT (.int .i64 (L[j] : Int)) (mpN L g)).map (· + 1)) = some (j + 1)
    rw [h4]
    simp [kEq, h3]
theorem mpN_take {L : List Nat} {g : Nat → Nat} {k : Nat} (h : k < L.length) : mpN (L.take k) g ++ [(T.int .i64 (L[k] : Int), T.int .i64 (g L[k] : Int))] = mpN (L.take (k + 1)) g := by
  unfold mpN
  rw [List.take_succ_eq_append_getElem h, List.map_append]
  rfl
/-- A look-up of an element that is there. -/
theorem fnd_in {L : List Nat} {g : Nat → Nat} (hn : L.Nodup) {y : Nat} (hy : y ∈ L) : ∃ j, fndT (.int .i64 (y : Int)) (mpN L g) = some j ∧ (mpN L g)[j]? = some (.int .i64 (y : Int), .int .i64 (g y : Int)) := by
  obtain ⟨j, hj, e⟩ := List.getElem_of_mem hy
  refine ⟨j, by rw [← e]; exact fnd_at hj hn, ?_⟩
  rw [← e]
  simp [mpN, hj]
theorem occursG {t u : List (List Int)} {gens f : List Int} (v1 : vErr t = 0) (vg : gensB t gens = true) (v2 : vErr u = 0) (hl : f.length = gens.length) (hin : inB u.length f = true) :
    (∀ p, p ∈ gpairs gens f (lnx gens) → p.1 < t.length ∧ p.2 < u.length) ∧ ∀ x, x < t.length → ∃ y, DvR (tabOf t) (tabOf u) (gpairs gens f (lnx gens)) y x := by
  have ht := TbL.of v1
  have hu := TbL.of v2
  have hS : ∀ p, p ∈ gpairs gens f (lnx gens) → p.1 < t.length ∧ p.2 < u.length := fun p hp => by
    obtain ⟨i, hi, rfl⟩ := gpairs_mem.1 hp
    have := inB_inv hin i (by simp only [lnx] at hi ⊢; omega)
    have e : nat_ f i = (nthx f i).toNat := rfl
    exact ⟨(gens_get vg hi).2, by rw [e]; omega⟩
  refine ⟨hS, fun x hx => ?_⟩
  have hg := (gensB_inv vg).2 x hx
  clear hx
  induction hg with
  | @base x i hi e hx =>
    refine ⟨nat_ f i, ?_⟩
    have : nat_ gens i = x := by unfold nat_; rw [e]; omega
    exact .base (p := (x, nat_ f i)) (gpairs_mem.2 ⟨i, hi, by rw [this]⟩)
  | mul _ _ ih1 ih2 =>
    obtain ⟨y1, h1⟩ := ih1
    obtain ⟨y2, h2⟩ := ih2
    exact ⟨_, h1.mul hS ht.lt hu.lt (vErr_asc v1) (vErr_asc v2) h2⟩
theorem dvErr_cases {t u : List (List Int)} {gens f : List Int} (v1 : vErr t = 0) (vg : gensB t gens = true) (v2 : vErr u = 0) (hl : f.length = gens.length) (hin : inB u.length f = true) : (dvErr t gens u f = 0 ∧ DvFun (tabOf t) (tabOf u) (gpairs gens f (lnx gens))) ∨ dvErr t gens u f = 9 := by
  by_cases h : DvFun (tabOf t) (tabOf u) (gpairs gens f (lnx gens))
  · exact .inl ⟨dvErr_0 v1 vg v2 hl hin h, h⟩
  · exact .inr (dvErr_6 v1 vg v2 hl hin h)
/-- What both lists of Map say. -/
theorem hom_facts {t u : List (List Int)} {gens f : List Int} (v1 : vErr t = 0) (vg : gensB t gens = true) (v2 : vErr u = 0) (hl : f.length = gens.length) (hin : inB u.length f = true) (h0 : dvErr t gens u f = 0) (hf : DvFun (tabOf t) (tabOf u) (gpairs gens f (lnx gens))) :
    ∃ (L : List Nat) (g : Nat → Nat), dvA t gens u f = L ∧ Go.Proofs.Ytgghmjnbkbiffaa.dvB t gens u f = L.map g ∧ L.Nodup ∧ (∀ y ∈ L, y < u.length ∧ g y < t.length) ∧ (∀ y ∈ L, ∀ z ∈ L, tabOf u y z ∈ L ∧ g (tabOf u y z) = tabOf t (g y) (g z)) ∧ ∀ x, x < t.length → ∃ y ∈ L, g y = x := by
  have ht := TbL.of v1
  have hu := TbL.of v2
  obtain ⟨hS, hoc⟩ := occursG v1 vg v2 hl hin
  have hmem : ∀ y, y ∈ dvEl (tabOf t) (tabOf u) (gpairs gens f (lnx gens)) (lnx u) ↔ ∃ x, DvR (tabOf t) (tabOf u) (gpairs gens f (lnx gens)) y x := fun y => by
    unfold dvEl dvHas
    rw [List.mem_filter, List.mem_range, decide_eq_true_iff]
    constructor
    · rintro ⟨h1, h2⟩
      by_cases h : ∃ x, DvR (tabOf t) (tabOf u) (gpairs gens f (lnx gens)) y x
      · exact h
      · rw [dvF_no h] at h2; omega
    · rintro ⟨x, hx⟩
      exact ⟨(hx.rng hS ht.lt hu.lt).1, by rw [dvF_is hf hx]; omega⟩
  have hg : ∀ y x, DvR (tabOf t) (tabOf u) (gpairs gens f (lnx gens)) y x → (dvF (tabOf t) (tabOf u) (gpairs gens f (lnx gens)) y).toNat = x := fun y x hx => by rw [dvF_is hf hx]; omega
  refine ⟨_, fun y => (dvF (tabOf t) (tabOf u) (gpairs gens f (lnx gens)) y).toNat, by unfold dvA; rw [if_pos h0], by unfold Go.Proofs.Ytgghmjnbkbiffaa.dvB; rw [if_pos h0]; rfl, ?_, fun y hy => ?_, fun y hy z hz => ?_, fun x hx => ?_⟩
  · unfold dvEl
    exact List.Nodup.sublist List.filter_sublist List.nodup_range
  · obtain ⟨x, hx⟩ := (hmem y).1 hy
    obtain ⟨h1, h2⟩ := hx.rng hS ht.lt hu.lt
    simp only
    rw [hg y x hx]
    exact ⟨h1, h2⟩
  · obtain ⟨a, ha⟩ := (hmem y).1 hy
    obtain ⟨b, hb⟩ := (hmem z).1 hz
    have hab := ha.mul hS ht.lt hu.lt (vErr_asc v1) (vErr_asc v2) hb
    simp only
    rw [hg y a ha, hg z b hb, hg _ _ hab]
    exact ⟨(hmem _).2 ⟨_, hab⟩, rfl⟩
  · obtain ⟨y, hy⟩ := hoc x hx
    exact ⟨y, (hmem y).2 ⟨x, hy⟩, hg y x hy⟩

set_option maxRecDepth 100000 in
set_option maxHeartbeats 8000000 in
theorem divideHom_fn (l : List Int) : FnA Try.prog 11 [.t 1 (ints l)] (.t 2 (.bool true)) := by
  have hnew := new_fn l
  obtain ⟨xs, hxs⟩ : ∃ xs, xs = l.take 80 := ⟨_, rfl⟩
  have hl : xs.length ≤ 80 := by rw [hxs]; simp; omega
  rw [← hxs] at hnew
  obtain ⟨v1, b1, hv1, hb1, hN1⟩ := next_fn xs 0 2 (by omega) hl (by omega)
  have hv1 := hv1 (by omega)
  obtain ⟨res1, H1, ⟨tb, gens, b2, hG, hb2, rfl, rfl⟩, hT1⟩ := table23_fn xs b1 (1 + v1) hb1 hl (by omega)
  obtain ⟨v2, b3, hv2, hb3, hN2⟩ := next_fn xs b2 2 hb2 hl (by omega)
  have hv2 := hv2 (by omega)
  obtain ⟨res2, H2, ⟨u0, ugens, b4, hG2, hb4, rfl, rfl⟩, hT2⟩ := table23_fn xs b3 (1 + v2) hb3 hl (by omega)
  obtain ⟨ok1, ok2, ok3, ok4, ok5, ok6⟩ := hG.ok
  obtain ⟨uk1, uk2, uk3, uk4, uk5, uk6⟩ := hG2.ok
  obtain ⟨res3, H3, ⟨im, b5, him, hir, hb5, rfl, rfl⟩, hI⟩ := images23_fn xs b4 gens.length u0 hb4 hl (by omega) (by omega) (by omega)
  obtain ⟨v3, b6, hv3, hb6, hN3⟩ := next_fn xs b5 3 hb5 hl (by omega)
  refine fn_intro Try.func11 rfl (by simp [Try.f11]) ?_
  rw [show Try.f11.ntmps = 174 from rfl, show Try.f11.results = #[.tmp 2] from rfl]
  refine awp_seqR (fun K hK => ?_)
  simp (maxSteps := 2000000) (disch := omega) [ints, rows, scal, wr64, wr8]
  (repeat' first | refine hK _ ?_ | apply And.intro) <;> clear hK K <;> try first | (show chkD _ _ = true; kernel_rfl) | omega | rfl | (simp; done) | (simp; omega)
  refine awp_seqR (fun K hK => ?_)
  simp (maxSteps := 2000000) (disch := omega) [ints, rows, scal, wr64, wr8]
  (repeat' apply And.intro)
  all_goals (try omega)
  refine call_rule (caps := []) (hnew) [] [2000000] 1 rfl rfl rfl rfl (by kernel_rfl) (by simp) ?_ ?_ (by simp) rfl (by simp) ⟨.inl ⟨by omega, by omega⟩, trivial⟩ (by simp [tpO]) ?_
  · simp [scal, rows, ints, tpO]
  · trivial
  simp (maxSteps := 2000000) (disch := omega) [ints, rows, scal, wr64, wr8, tpO]
  (repeat' first | refine hK _ ?_ | apply And.intro) <;> clear hK K <;> try first | (show chkD _ _ = true; kernel_rfl) | omega | rfl | (simp; done) | (simp; omega)
  refine awp_weak (σ' := mkS [(3, .ptr 0 0 2)] [(0, tpO 1 xs 0)] 1 174 [.any]) ?_ ?_
  · refine wk_list [(0, some 2000000)] rfl ?_ ?_ ?_ ?_
    all_goals try simp [ints, tpO, scal]
  refine awp_seqR (fun K hK => ?_)
  simp (maxSteps := 2000000) (disch := omega) [ints, rows, scal, wr64, wr8]
  (repeat' apply And.intro)
  all_goals (try omega)
  refine call_rule (caps := []) (hN1) [0] [0] 1 rfl rfl rfl rfl (by kernel_rfl) (by simp) ?_ ?_ (by simp) rfl (by simp) ⟨.inr ⟨rfl, 0, _, _, _, _, _, rfl, rfl, rfl, rfl, rfl⟩, trivial⟩ (by simp [tpO]) ?_
  · simp [scal, rows, ints, tpO]
  · simp [scal, rows, ints, tpO]
  simp (maxSteps := 2000000) (disch := omega) [ints, rows, scal, wr64, wr8]
  (repeat' apply And.intro)
  all_goals (try omega)
  refine call_rule (caps := []) (hT1) [0] [0] 1 rfl rfl rfl rfl (by kernel_rfl) (by simp) ?_ ?_ (by simp) rfl (by simp) ⟨.inr ⟨rfl, 0, _, _, _, _, _, rfl, rfl, rfl, rfl, rfl⟩, trivial⟩ (by simp [tpO]) ?_
  · simp [scal, rows, ints, tpO]
  · simp [scal, rows, ints, tpO]
  simp (maxSteps := 2000000) (disch := omega) [ints, rows, scal, wr64, wr8, tpO]
  (repeat' first | refine hK _ ?_ | apply And.intro) <;> clear hK K <;> try first | (show chkD _ _ = true; kernel_rfl) | omega | rfl | (simp; done) | (simp; omega)
  refine awp_seqR (fun K hK => ?_)
  simp (maxSteps := 2000000) (disch := omega) [ints, rows, scal, wr64, wr8]
  (repeat' apply And.intro)
  all_goals (try omega)
  refine call_rule (caps := []) (hN2) [0] [0] 1 rfl rfl rfl rfl (by kernel_rfl) (by simp) ?_ ?_ (by simp) rfl (by simp) ⟨.inr ⟨rfl, 0, _, _, _, _, _, rfl, rfl, rfl, rfl, rfl⟩, trivial⟩ (by simp [tpO]) ?_
  · simp [scal, rows, ints, tpO]
  · simp [scal, rows, ints, tpO]
  simp (maxSteps := 2000000) (disch := omega) [ints, rows, scal, wr64, wr8]
  (repeat' apply And.intro)
  all_goals (try omega)
  refine call_rule (caps := []) (hT2) [0] [0] 1 rfl rfl rfl rfl (by kernel_rfl) (by simp) ?_ ?_ (by simp) rfl (by simp) ⟨.inr ⟨rfl, 0, _, _, _, _, _, rfl, rfl, rfl, rfl, rfl⟩, trivial⟩ (by simp [tpO]) ?_
  · simp [scal, rows, ints, tpO]
  · simp [scal, rows, ints, tpO]
  simp (maxSteps := 2000000) (disch := omega) [ints, rows, scal, wr64, wr8, tpO]
  (repeat' first | refine hK _ ?_ | apply And.intro) <;> clear hK K <;> try first | (show chkD _ _ = true; kernel_rfl) | omega | rfl | (simp; done) | (simp; omega)
  refine awp_seqR (fun K hK => ?_)
  simp (maxSteps := 2000000) (disch := omega) [ints, rows, scal, wr64, wr8]
  (repeat' apply And.intro)
  all_goals (try omega)
  refine call_rule (caps := []) (hI) [0] [0] 1 rfl rfl rfl rfl (by kernel_rfl) (by simp) ?_ ?_ (by simp) rfl (by simp) ⟨.inr ⟨rfl, 0, _, _, _, _, _, rfl, rfl, rfl, rfl, rfl⟩, trivial⟩ (by simp [tpO]) ?_
  · simp [scal, rows, ints, tpO]
  · simp [scal, rows, ints, tpO]
  simp (maxSteps := 2000000) (disch := omega) [ints, rows, scal, wr64, wr8, tpO]
  (repeat' first | refine hK _ ?_ | apply And.intro) <;> clear hK K <;> try first | (show chkD _ _ = true; kernel_rfl) | omega | rfl | (simp; done) | (simp; omega)
  refine awp_seq (awp_mono (Q := fun e σ => e = Exit.normal ∧ ∃ u f, (vErr u = 0 ∧ u.length ≤ 27 ∧ f.length = gens.length ∧ inB u.length f = true) ∧ Wk σ (mkS [(4, .t 2 (rows tb)), (5, .t 2 (ints gens)), (6, .t 2 (rows u)), (8, .t 2 (ints f))] [] 0 174 [.any])) ?_ ?_)
  · refine awp_seqR (fun K hK => ?_)
    simp (maxSteps := 2000000) (disch := omega) [ints, rows, scal, wr64, wr8]
    (repeat' apply And.intro)
    all_goals (try omega)
    refine call_rule (caps := []) (hN3) [0] [0] 1 rfl rfl rfl rfl (by kernel_rfl) (by simp) ?_ ?_ (by simp) rfl (by simp) ⟨.inr ⟨rfl, 0, _, _, _, _, _, rfl, rfl, rfl, rfl, rfl⟩, trivial⟩ (by simp [tpO]) ?_
    · simp [scal, rows, ints, tpO]
    · simp [scal, rows, ints, tpO]
    simp (maxSteps := 2000000) (disch := omega) [ints, rows, scal, wr64, wr8]
    (repeat' first | refine hK _ ?_ | apply And.intro) <;> clear hK K <;> try first | (show chkD _ _ = true; kernel_rfl) | omega | rfl | (simp; done) | (simp; omega)
    by_cases hc : 0 < v3
    · refine awp_cond (b := true) (p := 2) (by simp [scal, hc] <;> omega) ?_
      refine awp_R (fun K hK => ?_)
      simp (maxSteps := 2000000) (disch := omega) [ints, rows, scal, wr64, wr8]
      (repeat' first | refine hK _ ?_ | apply And.intro) <;> clear hK K <;> try first | (show chkD _ _ = true; kernel_rfl) | omega | rfl | (simp; done) | (simp; omega)
      refine ⟨tb, gens, ⟨ok1, ok6, rfl, (gensB_inv ok2).1⟩, ?_⟩
      refine wk_list [] rfl ?_ ?_ ?_ ?_
      all_goals try simp [ints, rows, ints]
    · refine awp_cond (b := false) (p := 2) (by simp [scal, hc] <;> omega) ?_
      refine awp_skip ?_
      refine ⟨rfl, u0, im, ⟨uk1, uk6, him, inB_t fun i hi => by rw [nth_get hi]; exact hir _ (List.getElem_mem hi)⟩, ?_⟩
      refine wk_list [] rfl ?_ ?_ ?_ ?_
      all_goals try simp [ints, rows, ints]
  rintro e σ ⟨rfl, u, f, ⟨hu1, hu2, hf1, hf2⟩, hw⟩
  refine awp_weak hw ?_
  clear hw
  obtain ⟨A, B, E, hA, hB, hE, hAl, hBl, hM1, -⟩ := maps_fn tb gens u f (by omega) (by omega)
  rcases dvErr_cases ok1 ok2 hu1 hf1 hf2 with ⟨h0, hfun⟩ | h9
  case inr =>
    rw [h9] at hE
    subst hE
    show awp _ _ _ _
    refine awp_seqR (fun K hK => ?_)
    simp (maxSteps := 2000000) (disch := omega) [ints, rows, scal, wr64, wr8]
    (repeat' apply And.intro)
    all_goals (try omega)
    refine call_rule (caps := []) (hM1) [] [] 2 rfl rfl rfl rfl (by kernel_rfl) (by simp) ?_ trivial trivial rfl trivial trivial (by simp) ?_
    · simp [scal, rows, ints]
    simp (maxSteps := 2000000) (disch := omega) [ints, rows, scal, wr64, wr8]
    (repeat' first | refine hK _ ?_ | apply And.intro) <;> clear hK K <;> try first | (show chkD _ _ = true; kernel_rfl) | omega | rfl | (simp; done) | (simp; omega)
    refine awp_seq ?_
    refine awp_seqR (fun K hK => ?_)
    simp (maxSteps := 2000000) (disch := omega) [ints, rows, scal, wr64, wr8]
    (repeat' first | refine hK _ ?_ | apply And.intro) <;> clear hK K <;> try first | (show chkD _ _ = true; kernel_rfl) | omega | rfl | (simp; done) | (simp; omega)
    refine awp_cond (b := true) (p := 2) (by simp [scal] <;> omega) ?_
    refine awp_seqR (fun K hK => ?_)
    simp (maxSteps := 2000000) (disch := omega) [ints, rows, scal, wr64, wr8]
    (repeat' apply And.intro)
    all_goals (try omega)
    refine call_rule (caps := []) (known23_fn) [] [] 2 (by simp [scal, rows, ints]) rfl rfl rfl (by kernel_rfl) (by simp) ?_ trivial trivial rfl trivial trivial (by simp) ?_
    · simp [scal, rows, ints]
    simp (maxSteps := 2000000) (disch := omega) [ints, rows, scal, wr64, wr8]
    (repeat' first | refine hK _ ?_ | apply And.intro) <;> clear hK K <;> try first | (show chkD _ _ = true; kernel_rfl) | omega | rfl | (simp; done) | (simp; omega)
    refine awp_ret ?_
    refine ⟨⟨.inr rfl, _, [], rfl, trivial, trivial, by simp, ?_⟩, by simp⟩
    simp
  obtain ⟨L, g, hL, hV, hnd, hrg, hmu, hon⟩ := hom_facts ok1 ok2 hu1 hf1 hf2 h0 hfun
  rw [h0] at hE
  rw [hL] at hA
  rw [hV] at hB
  subst hE hA hB
  have hLl : L.length ≤ 1000 := by have := lnx_natsOf L; simp only [lnx] at this; omega
  rw [← nsT_ints, ← nsT_ints] at hM1
  have ht := TbL.of ok1
  have hu := TbL.of hu1
  show awp _ _ _ _
  refine awp_seqR (fun K hK => ?_)
  simp (maxSteps := 2000000) (disch := omega) [ints, rows, scal, wr64, wr8]
  (repeat' apply And.intro)
  all_goals (try omega)
  refine call_rule (caps := []) (hM1) [] [] 2 rfl rfl rfl rfl (by kernel_rfl) (by simp) ?_ trivial trivial rfl trivial trivial (by simp) ?_
  · simp [scal, rows, ints]
  simp (maxSteps := 2000000) (disch := omega) [ints, rows, scal, wr64, wr8]
  (repeat' first | refine hK _ ?_ | apply And.intro) <;> clear hK K <;> try first | (show chkD _ _ = true; kernel_rfl) | omega | rfl | (simp; done) | (simp; omega)
  refine awp_seq ?_
  refine awp_seqR (fun K hK => ?_)
  simp (maxSteps := 2000000) (disch := omega) [ints, rows, scal, wr64, wr8]
  (repeat' first | refine hK _ ?_ | apply And.intro) <;> clear hK K <;> try first | (show chkD _ _ = true; kernel_rfl) | omega | rfl | (simp; done) | (simp; omega)
  refine awp_cond (b := false) (p := 2) (by simp [scal] <;> omega) ?_
  refine awp_skip ?_
  show awp _ _ _ _
  refine awp_seqR (fun K hK => ?_)
  simp (maxSteps := 2000000) (disch := omega) [ints, rows, scal, wr64, wr8]
  (repeat' first | refine hK _ ?_ | apply And.intro) <;> clear hK K <;> try first | (show chkD _ _ = true; kernel_rfl) | omega | rfl | (simp; done) | (simp; omega)
  refine awp_seq ?_
  refine awp_seqR (fun K hK => ?_)
  simp (maxSteps := 2000000) (disch := omega) [ints, rows, scal, wr64, wr8]
  (repeat' first | refine hK _ ?_ | apply And.intro) <;> clear hK K <;> try first | (show chkD _ _ = true; kernel_rfl) | omega | rfl | (simp; done) | (simp; omega)
  refine awp_block ?_
  refine awp_loop (fun k : Nat => mkS [(4, .t 2 (rows tb)), (6, .t 2 (rows u)), (9, .t 2 (.sl 1 (nsT L))), (10, .t 2 (.sl 1 (nsT (L.map g)))), (12, .own 0 0), (69, .t 2 (.sl 1 (nsT L))), (70, .t 2 (.int .i64 L.length)), (71, .t 2 (.int .i64 k))] [(0, .map 3 3 (mpN (L.take k) g))] 1 174 [.any]) (fun k => k ≤ L.length) (fun k => L.length - k) ?_ ?_
  · clear hG hG2 hT1 hT2 hN1 hN2 hN3 hI hir hon hmu
    refine ⟨0, by omega, ?_⟩
    refine wk_list [(0, some 14000000)] rfl ?_ ?_ ?_ ?_
    all_goals try simp [ints, rows, mpN]
  intro k hk
  refine awp_seqR (fun K hK => ?_)
  simp (maxSteps := 2000000) (disch := omega) [ints, rows, scal, wr64, wr8]
  (repeat' first | refine hK _ ?_ | apply And.intro) <;> clear hK K <;> try first | (show chkD _ _ = true; kernel_rfl) | omega | rfl | (simp; done) | (simp; omega)
  refine awp_seq ?_
  by_cases hkl : k < L.length
  · obtain ⟨y, hy⟩ : ∃ y, y = L[k] := ⟨_, rfl⟩
    have hyL : y ∈ L := by rw [hy]; exact List.getElem_mem hkl
    have hg1 : (nsT L)[k]? = some (.int .i64 (y : Int)) := by rw [nsT_get hkl, hy]
    have hg2 : (nsT (L.map g))[k]? = some (.int .i64 (g y : Int)) := by rw [nsT_get (by simpa using hkl), hy]; simp
    have hg1' : ∀ h, (nsT L)[k]'h = .int .i64 (y : Int) := fun h => (List.getElem?_eq_some_iff.1 hg1).2
    have hg2' : ∀ h, (nsT (L.map g))[k]'h = .int .i64 (g y : Int) := fun h => (List.getElem?_eq_some_iff.1 hg2).2
    obtain ⟨r1, r2⟩ := hrg y hyL
    have m1 : ¬ L.length ≤ k := by omega
    have m2 : ¬ (y : Int) < 0 := by omega
    have m3 : ¬ u.length ≤ y := by omega
    have m4 : ¬ (g y : Int) < 0 := by omega
    have m5 : ¬ tb.length ≤ g y := by omega
    have hno : fndT (.int .i64 (y : Int)) (mpN (L.take k) g) = none := fnd_no (fun h => by
      obtain ⟨i, hi, e⟩ := List.getElem_of_mem h
      simp only [List.length_take] at hi
      rw [List.getElem_take, hy] at e
      have := (List.getElem_inj hnd).1 e
      omega)
    refine awp_cond (b := true) (p := 2) (by simp [scal, hkl] <;> omega) ?_
    refine awp_skip ?_
    show awp _ _ _ _
    refine awp_seq ?_
    refine awp_block ?_
    refine awp_seqR (fun K hK => ?_)
    simp (maxSteps := 2000000) (disch := omega) [ints, rows, scal, wr64, wr8, hkl, hg1, hg1']
    (repeat' first | refine hK _ ?_ | apply And.intro) <;> clear hK K <;> try first | (show chkD _ _ = true; kernel_rfl) | omega | rfl | (simp; done) | (simp; omega)
    refine awp_seq ?_
    refine awp_seqR (fun K hK => ?_)
    simp (maxSteps := 2000000) (disch := omega) [ints, rows, scal, wr64, wr8, hkl, hg2, hg2', m1, m2, m3, m4, m5]
    (repeat' first | refine hK _ ?_ | apply And.intro) <;> clear hK K <;> try first | (show chkD _ _ = true; kernel_rfl) | omega | rfl | (simp; done) | (simp; omega)
    refine awp_cond (b := false) (p := 2) (by simp [scal, m1, m2, m3, m4, m5] <;> omega) ?_
    refine awp_skip ?_
    show awp _ _ _ _
    refine awp_R (fun K hK => ?_)
    simp (maxSteps := 2000000) (disch := omega) [ints, rows, scal, wr64, wr8, hkl, hg2, hg2', hno, kOK]
    (repeat' first | refine hK _ ?_ | apply And.intro) <;> clear hK K <;> try first | (show chkD _ _ = true; kernel_rfl) | omega | rfl | (simp; done) | (simp; omega)
    all_goals (try (intro a b h; obtain ⟨w, _, e⟩ := List.mem_map.1 h; cases e; rfl))
    show awp _ _ _ _
    refine awp_R (fun K hK => ?_)
    simp (maxSteps := 2000000) (disch := omega) [ints, rows, scal, wr64, wr8]
    (repeat' first | refine hK _ ?_ | apply And.intro) <;> clear hK K <;> try first | (show chkD _ _ = true; kernel_rfl) | omega | rfl | (simp; done) | (simp; omega)
    refine ⟨k + 1, by omega, by omega, ?_⟩
    refine wk_list [(0, some 0)] rfl ?_ ?_ ?_ ?_
    all_goals try simp [ints, rows]
    rw [hy]
    exact mpN_take hkl
  obtain rfl : k = L.length := by omega
  refine awp_cond (b := false) (p := 2) (by simp [scal] <;> omega) ?_
  refine awp_exit ?_
  show awp _ _ _ _
  refine awp_seqR (fun K hK => ?_)
  simp (maxSteps := 2000000) (disch := omega) [ints, rows, scal, wr64, wr8]
  (repeat' first | refine hK _ ?_ | apply And.intro) <;> clear hK K <;> try first | (show chkD _ _ = true; kernel_rfl) | omega | rfl | (simp; done) | (simp; omega)
  refine awp_seq ?_
  refine awp_seqR (fun K hK => ?_)
  simp (maxSteps := 2000000) (disch := omega) [ints, rows, scal, wr64, wr8]
  (repeat' first | refine hK _ ?_ | apply And.intro) <;> clear hK K <;> try first | (show chkD _ _ = true; kernel_rfl) | omega | rfl | (simp; done) | (simp; omega)
  refine awp_block ?_
  refine awp_loop (fun y : Nat × (Nat → Bool) => mkS [(4, .t 2 (rows tb)), (6, .t 2 (rows u)), (9, .t 2 (.sl 1 (nsT L))), (12, .own 0 0), (15, .own 1 tb.length), (116, .t 2 (.sl 1 (nsT L))), (117, .t 2 (.int .i64 L.length)), (118, .t 2 (.int .i64 y.1))] [(0, .map 3 3 (mpN L g)), (1, .row 4 1 2 (boolT tb.length y.2))] 2 174 [.any]) (fun y => y.1 ≤ L.length ∧ ∀ z ∈ L.take y.1, y.2 (g z) = true) (fun y => L.length - y.1) ?_ ?_
  · refine ⟨(0, fun _ => false), ⟨by simp, by simp⟩, ?_⟩
    refine wk_list [(0, some 0), (1, some 3000001)] rfl ?_ ?_ ?_ ?_
    all_goals try simp [ints, rows, boolT, rep_tab, List.take_length]
  rintro ⟨k, F⟩ ⟨hk, hF⟩
  simp only at hk hF
  refine awp_seqR (fun K hK => ?_)
  simp (maxSteps := 2000000) (disch := omega) [ints, rows, scal, wr64, wr8]
  (repeat' first | refine hK _ ?_ | apply And.intro) <;> clear hK K <;> try first | (show chkD _ _ = true; kernel_rfl) | omega | rfl | (simp; done) | (simp; omega)
  refine awp_seq ?_
  by_cases hkl : k < L.length
  · obtain ⟨y, hy⟩ : ∃ y, y = L[k] := ⟨_, rfl⟩
    have hyL : y ∈ L := by rw [hy]; exact List.getElem_mem hkl
    have hg1 : (nsT L)[k]? = some (.int .i64 (y : Int)) := by rw [nsT_get hkl, hy]
    have hg1' : ∀ h, (nsT L)[k]'h = .int .i64 (y : Int) := fun h => (List.getElem?_eq_some_iff.1 hg1).2
    obtain ⟨r1, r2⟩ := hrg y hyL
    obtain ⟨jy, hjy, hmy⟩ := fnd_in (g := g) hnd hyL
    refine awp_cond (b := true) (p := 2) (by simp [scal, hkl] <;> omega) ?_
    refine awp_skip ?_
    show awp _ _ _ _
    refine awp_seq ?_
    refine awp_block ?_
    refine awp_seqR (fun K hK => ?_)
    simp (maxSteps := 2000000) (disch := omega) [ints, rows, scal, wr64, wr8, hkl, hg1, hg1']
    (repeat' first | refine hK _ ?_ | apply And.intro) <;> clear hK K <;> try first | (show chkD _ _ = true; kernel_rfl) | omega | rfl | (simp; done) | (simp; omega)
    refine awp_seqR (fun K hK => ?_)
    simp (maxSteps := 2000000) (disch := omega) [ints, rows, scal, wr64, wr8, hjy, hmy, kOK, boolT, r2]
    (repeat' first | refine hK _ ?_ | apply And.intro) <;> clear hK K <;> try first | (show chkD _ _ = true; kernel_rfl) | omega | rfl | (simp; done) | (simp; omega)
    all_goals (try (intro a b h; obtain ⟨w, _, e⟩ := List.mem_map.1 h; cases e; rfl))
    refine awp_seqR (fun K hK => ?_)
    simp (maxSteps := 2000000) (disch := omega) [ints, rows, scal, wr64, wr8]
    (repeat' first | refine hK _ ?_ | apply And.intro) <;> clear hK K <;> try first | (show chkD _ _ = true; kernel_rfl) | omega | rfl | (simp; done) | (simp; omega)
    refine awp_block ?_
    refine awp_loop (fun j : Nat => mkS [(4, .t 2 (rows tb)), (6, .t 2 (rows u)), (9, .t 2 (.sl 1 (nsT L))), (12, .own 0 0), (15, .own 1 tb.length), (17, .t 2 (.int .i64 y)), (116, .t 2 (.sl 1 (nsT L))), (117, .t 2 (.int .i64 L.length)), (118, .t 2 (.int .i64 k)), (127, .t 2 (.sl 1 (nsT L))), (128, .t 2 (.int .i64 L.length)), (129, .t 2 (.int .i64 j))] [(0, .map 3 3 (mpN L g)), (1, .row 4 1 2 (boolT tb.length (fun i => if i = g y then true else F i)))] 2 174 [.any]) (fun j => j ≤ L.length) (fun j => L.length - j) ?_ ?_
    · refine ⟨0, by omega, ?_⟩
      refine wk_list [(0, some 0), (1, some 1)] rfl ?_ ?_ ?_ ?_
      all_goals try simp [ints, rows, boolT, tab_set]
      exact tab_congr fun i hi => by by_cases e : i = g y <;> simp [e]
    intro j hj
    refine awp_seqR (fun K hK => ?_)
    simp (maxSteps := 2000000) (disch := omega) [ints, rows, scal, wr64, wr8]
    (repeat' first | refine hK _ ?_ | apply And.intro) <;> clear hK K <;> try first | (show chkD _ _ = true; kernel_rfl) | omega | rfl | (simp; done) | (simp; omega)
    refine awp_seq ?_
    by_cases hjl : j < L.length
    · obtain ⟨z, hz⟩ : ∃ z, z = L[j] := ⟨_, rfl⟩
      have hzL : z ∈ L := by rw [hz]; exact List.getElem_mem hjl
      have hg3 : (nsT L)[j]? = some (.int .i64 (z : Int)) := by rw [nsT_get hjl, hz]
      have hg3' : ∀ h, (nsT L)[j]'h = .int .i64 (z : Int) := fun h => (List.getElem?_eq_some_iff.1 hg3).2
      obtain ⟨r3, r4⟩ := hrg z hzL
      obtain ⟨hp1, hp2⟩ := hmu y hyL z hzL
      obtain ⟨jz, hjz, hmz⟩ := fnd_in (g := g) hnd hzL
      obtain ⟨jp, hjp, hmp⟩ := fnd_in (g := g) hnd hp1
      have q1 : z < u[y].length := by rw [hu.row]; exact r3
      have q2 := hu.val y z r1 q1
      have q3 : g z < tb[g y].length := by rw [ht.row]; exact r4
      have q4 := ht.val (g y) (g z) r2 q3
      rw [← q2] at hjp
      refine awp_cond (b := true) (p := 2) (by simp [scal, hjl] <;> omega) ?_
      refine awp_skip ?_
      show awp _ _ _ _
      refine awp_seq ?_
      refine awp_block ?_
      refine awp_seqR (fun K hK => ?_)
      simp (maxSteps := 2000000) (disch := omega) [ints, rows, scal, wr64, wr8, hjl, hg3, hg3']
      (repeat' first | refine hK _ ?_ | apply And.intro) <;> clear hK K <;> try first | (show chkD _ _ = true; kernel_rfl) | omega | rfl | (simp; done) | (simp; omega)
      refine awp_seqR (fun K hK => ?_)
      simp (maxSteps := 2000000) (disch := omega) [ints, rows, scal, wr64, wr8, r1, q1, hjp, hmp, kOK, hp2]
      (repeat' first | refine hK _ ?_ | apply And.intro) <;> clear hK K <;> try first | (show chkD _ _ = true; kernel_rfl) | omega | rfl | (simp; done) | (simp; omega)
      all_goals (try (intro a b h; obtain ⟨w, _, e⟩ := List.mem_map.1 h; cases e; rfl))
      refine awp_seqD (by kernel_rfl) (fun K hK => ?_)
      simp (maxSteps := 2000000) (disch := omega) [ints, rows, scal, wr64, wr8, hjy, hmy, hjz, hmz, kOK, r2, q3, q4]
      (repeat' first | refine hK _ ?_ | apply And.intro) <;> clear hK K <;> try first | (show chkD _ _ = true; kernel_rfl) | omega | rfl | (simp; done) | (simp; omega)
      all_goals (try (intro a b h; obtain ⟨w, _, e⟩ := List.mem_map.1 h; cases e; rfl))
      refine awp_cond (b := false) (p := 2) (by simp [scal] <;> omega) ?_
      refine awp_skip ?_
      show awp _ _ _ _
      refine awp_R (fun K hK => ?_)
      simp (maxSteps := 2000000) (disch := omega) [ints, rows, scal, wr64, wr8]
      (repeat' first | refine hK _ ?_ | apply And.intro) <;> clear hK K <;> try first | (show chkD _ _ = true; kernel_rfl) | omega | rfl | (simp; done) | (simp; omega)
      refine ⟨j + 1, by omega, by omega, ?_⟩
      refine wk_list [(0, some 0), (1, some 1)] rfl ?_ ?_ ?_ ?_
      all_goals try simp [ints, rows]
    obtain rfl : j = L.length := by omega
    refine awp_cond (b := false) (p := 2) (by simp [scal] <;> omega) ?_
    refine awp_exit ?_
    show awp _ _ _ _
    refine awp_R (fun K hK => ?_)
    simp (maxSteps := 2000000) (disch := omega) [ints, rows, scal, wr64, wr8]
    (repeat' first | refine hK _ ?_ | apply And.intro) <;> clear hK K <;> try first | (show chkD _ _ = true; kernel_rfl) | omega | rfl | (simp; done) | (simp; omega)
    refine ⟨(k + 1, fun i => if i = g y then true else F i), ⟨by simp only; omega, fun z hz => ?_⟩, by simp only; omega, ?_⟩
    · simp only at hz ⊢
      rw [List.take_succ_eq_append_getElem hkl, List.mem_append] at hz
      by_cases e : g z = g y
      · simp [e]
      · rw [if_neg e]
        rcases hz with hz | hz
        · exact hF z hz
        · simp only [List.mem_singleton] at hz
          rw [hz, ← hy] at e
          exact absurd rfl e
    · refine wk_list [(0, some 0), (1, some 1)] rfl ?_ ?_ ?_ ?_
      all_goals try simp [ints, rows]
  obtain rfl : k = L.length := by omega
  have hall : ∀ x, x < tb.length → F x = true := fun x hx => by
    obtain ⟨y, hy, e⟩ := hon x hx
    rw [← e]
    exact hF y (by rw [List.take_length]; exact hy)
  refine awp_cond (b := false) (p := 2) (by simp [scal] <;> omega) ?_
  refine awp_exit ?_
  show awp _ _ _ _
  refine awp_seq ?_
  refine awp_seqR (fun K hK => ?_)
  simp (maxSteps := 2000000) (disch := omega) [ints, rows, scal, wr64, wr8]
  (repeat' first | refine hK _ ?_ | apply And.intro) <;> clear hK K <;> try first | (show chkD _ _ = true; kernel_rfl) | omega | rfl | (simp; done) | (simp; omega)
  refine awp_block ?_
  refine awp_loop (fun j : Nat => mkS [(164, .own 1 tb.length), (165, .t 2 (.int .i64 tb.length)), (166, .t 2 (.int .i64 j))] [(1, .row 4 1 2 (boolT tb.length F))] 2 174 [.any]) (fun j => j ≤ tb.length) (fun j => tb.length - j) ?_ ?_
  · refine ⟨0, by omega, ?_⟩
    refine wk_list [(1, some 1)] rfl ?_ ?_ ?_ ?_
    all_goals try simp [ints, rows]
  intro j hj
  refine awp_seqR (fun K hK => ?_)
  simp (maxSteps := 2000000) (disch := omega) [ints, rows, scal, wr64, wr8]
  (repeat' first | refine hK _ ?_ | apply And.intro) <;> clear hK K <;> try first | (show chkD _ _ = true; kernel_rfl) | omega | rfl | (simp; done) | (simp; omega)
  refine awp_seq ?_
  by_cases hjl : j < tb.length
  · have hb := boolT_get (g := F) hjl
    rw [hall j hjl] at hb
    have hb' : ∀ h, (boolT tb.length F)[j]'h = .bool true := fun h => (List.getElem?_eq_some_iff.1 hb).2
    refine awp_cond (b := true) (p := 2) (by simp [scal, hjl] <;> omega) ?_
    refine awp_skip ?_
    show awp _ _ _ _
    refine awp_seq ?_
    refine awp_block ?_
    refine awp_seqR (fun K hK => ?_)
    simp (maxSteps := 2000000) (disch := omega) [ints, rows, scal, wr64, wr8, hjl, hb, hb']
    (repeat' first | refine hK _ ?_ | apply And.intro) <;> clear hK K <;> try first | (show chkD _ _ = true; kernel_rfl) | omega | rfl | (simp; done) | (simp; omega)
    refine awp_seqR (fun K hK => ?_)
    simp (maxSteps := 2000000) (disch := omega) [ints, rows, scal, wr64, wr8]
    (repeat' first | refine hK _ ?_ | apply And.intro) <;> clear hK K <;> try first | (show chkD _ _ = true; kernel_rfl) | omega | rfl | (simp; done) | (simp; omega)
    refine awp_cond (b := false) (p := 2) (by simp [scal] <;> omega) ?_
    refine awp_skip ?_
    show awp _ _ _ _
    refine awp_R (fun K hK => ?_)
    simp (maxSteps := 2000000) (disch := omega) [ints, rows, scal, wr64, wr8]
    (repeat' first | refine hK _ ?_ | apply And.intro) <;> clear hK K <;> try first | (show chkD _ _ = true; kernel_rfl) | omega | rfl | (simp; done) | (simp; omega)
    refine ⟨j + 1, by omega, by omega, ?_⟩
    refine wk_list [(1, some 1)] rfl ?_ ?_ ?_ ?_
    all_goals try simp [ints, rows]
  obtain rfl : j = tb.length := by omega
  refine awp_cond (b := false) (p := 2) (by simp [scal] <;> omega) ?_
  refine awp_exit ?_
  show awp _ _ _ _
  refine awp_seqR (fun K hK => ?_)
  simp (maxSteps := 2000000) (disch := omega) [ints, rows, scal, wr64, wr8]
  (repeat' apply And.intro)
  all_goals (try omega)
  refine call_rule (caps := []) (known23_fn) [] [] 2 rfl rfl rfl rfl (by kernel_rfl) (by simp) ?_ trivial trivial rfl trivial trivial (by simp) ?_
  · simp [scal, rows, ints]
  simp (maxSteps := 2000000) (disch := omega) [ints, rows, scal, wr64, wr8]
  (repeat' first | refine hK _ ?_ | apply And.intro) <;> clear hK K <;> try first | (show chkD _ _ = true; kernel_rfl) | omega | rfl | (simp; done) | (simp; omega)
  refine awp_ret ?_
  refine ⟨⟨.inr rfl, _, [], rfl, trivial, trivial, by simp, ?_⟩, by simp⟩
  simp
end Go.Proofs.Ytgghmjnbkbiffaa.M
