/-
  Walks in my logic: the laws DivideFinds and DivideSmaller.
-/
import Derived.Test.YtgghmjnbkbiffaaZqbi
import Derived.Test.YtgghmjnbkbiffaaZqbj
namespace Go.Proofs.Ytgghmjnbkbiffaa.M
open Go.RowKit
set_option linter.unusedVariables false
set_option linter.unusedSimpArgs false

set_option maxRecDepth 100000 in
set_option maxHeartbeats 8000000 in
theorem divideFinds_fn (l : List Int) (bu : Int) : FnA Try.prog 10 [.t 1 (ints l), .t 2 (.int .i64 bu)] (.t 2 (.bool true)) := by
  have hnew := new_fn l
  obtain ⟨xs, hxs⟩ : ∃ xs, xs = l.take 80 := ⟨_, rfl⟩
  have hl : xs.length ≤ 80 := by rw [hxs]; simp; omega
  rw [← hxs] at hnew
  obtain ⟨res1, H1, ⟨tb, gens, b2, hG, hb2, rfl, rfl⟩, hT1⟩ := table23_fn xs 0 1 (by omega) hl (by omega)
  obtain ⟨v2, b3, hv2, hb3, hN2⟩ := next_fn xs b2 2 hb2 hl (by omega)
  have hv2 := hv2 (by omega)
  obtain ⟨res2, H2, ⟨u, ugens, b4, hG2, hb4, rfl, rfl⟩, hT2⟩ := table23_fn xs b3 (1 + v2) hb3 hl (by omega)
  obtain ⟨ok1, ok2, ok3, ok4, ok5, ok6⟩ := hG.ok
  obtain ⟨uk1, uk2, uk3, uk4, uk5, uk6⟩ := hG2.ok
  have hmod := mod_fn bu 200 (by omega)
  obtain ⟨m, hm, hm2⟩ : ∃ m : Nat, modI bu 200 = (m : Int) ∧ m < 200 := by
    have := modI_in (x := bu) (n := 200) (by omega)
    exact ⟨(modI bu 200).toNat, by omega, by omega⟩
  rw [hm] at hmod
  obtain ⟨r, c, e, hR, hF1, hF2⟩ := finds_fn tb u gens (1 + m) ok1 ok2 uk1 (by omega) (by omega) ok3 (by omega)
  have hrl : (natsOf r).length ≤ 1000000 := by
    have := lnx_natsOf r
    simp only [lnx] at this
    rw [this]
    rcases hR with ⟨_, h, _⟩ | ⟨_, h, _⟩ | ⟨_, h, _⟩
    · omega
    · rw [h]; simp
    · rw [h]; simp
  have hs := same_fn (natsOf r) (natsOf r) hrl
  rw [decide_eq_true rfl] at hs
  refine fn_intro Try.func10 rfl (by simp [Try.f10]) ?_
  rw [show Try.f10.ntmps = 72 from rfl, show Try.f10.results = #[.tmp 4] from rfl]
  refine awp_seqR (fun K hK => ?_)
  simp (maxSteps := 2000000) (disch := omega) [ints, rows, scal, wr64, wr8]
  (repeat' first | refine hK _ ?_ | apply And.intro) <;> clear hK K <;> try first | (show chkD _ _ = true; kernel_rfl) | omega | rfl | (simp; done) | (simp; omega)
  refine awp_seqR (fun K hK => ?_)
  simp (maxSteps := 2000000) (disch := omega) [ints, rows, scal, wr64, wr8]
  (repeat' apply And.intro)
  all_goals (try omega)
  refine call_rule (caps := []) (hnew) [] [2000000] 1 rfl rfl rfl rfl (by kernel_rfl) (by simp) ?_ ?_ (by simp) rfl (by simp) ⟨.inl ⟨by omega, by omega⟩, trivial⟩ (by simp [tpO]) ?_
  · simp [scal, rows, ints, tpO]
  · trivial
  simp (maxSteps := 2000000) (disch := omega) [ints, rows, scal, wr64, wr8, tpO]
  (repeat' first | refine hK _ ?_ | apply And.intro) <;> clear hK K <;> try first | (show chkD _ _ = true; kernel_rfl) | omega | rfl | (simp; done) | (simp; omega)
  refine awp_weak (σ' := mkS [(1, .t 2 (.int .i64 bu)), (5, .ptr 0 0 2)] [(0, tpO 1 xs 0)] 1 72 [.any, .any]) ?_ ?_
  · refine wk_list [(0, some 2000000)] rfl ?_ ?_ ?_ ?_
    all_goals try simp [ints, tpO, scal]
  refine awp_seqR (fun K hK => ?_)
  simp (maxSteps := 2000000) (disch := omega) [ints, rows, scal, wr64, wr8]
  (repeat' apply And.intro)
  all_goals (try omega)
  refine call_rule (caps := []) (hT1) [0] [0] 1 rfl rfl rfl rfl (by kernel_rfl) (by simp) ?_ ?_ (by simp) rfl (by simp) ⟨.inr ⟨rfl, 0, _, _, _, _, _, rfl, rfl, rfl, rfl, rfl⟩, trivial⟩ (by simp [tpO]) ?_
  · simp [scal, rows, ints, tpO]
  · simp [scal, rows, ints, tpO]
  simp (maxSteps := 2000000) (disch := omega) [ints, rows, scal, wr64, wr8, tpO]
  (repeat' first | refine hK _ ?_ | apply And.intro) <;> clear hK K <;> try first | (show chkD _ _ = true; kernel_rfl) | omega | rfl | (simp; done) | (simp; omega)
  refine awp_seqR (fun K hK => ?_)
  simp (maxSteps := 2000000) (disch := omega) [ints, rows, scal, wr64, wr8]
  (repeat' apply And.intro)
  all_goals (try omega)
  refine call_rule (caps := []) (hN2) [0] [0] 1 rfl rfl rfl rfl (by kernel_rfl) (by simp) ?_ ?_ (by simp) rfl (by simp) ⟨.inr ⟨rfl, 0, _, _, _, _, _, rfl, rfl, rfl, rfl, rfl⟩, trivial⟩ (by simp [tpO]) ?_
  · simp [scal, rows, ints, tpO]
  · simp [scal, rows, ints, tpO]
  simp (maxSteps := 2000000) (disch := omega) [ints, rows, scal, wr64, wr8]
  (repeat' apply And.intro)
  all_goals (try omega)
  refine call_rule (caps := []) (hT2) [0] [0] 1 rfl rfl rfl rfl (by kernel_rfl) (by simp) ?_ ?_ (by simp) rfl (by simp) ⟨.inr ⟨rfl, 0, _, _, _, _, _, rfl, rfl, rfl, rfl, rfl⟩, trivial⟩ (by simp [tpO]) ?_
  · simp [scal, rows, ints, tpO]
  · simp [scal, rows, ints, tpO]
  simp (maxSteps := 2000000) (disch := omega) [ints, rows, scal, wr64, wr8, tpO]
  (repeat' first | refine hK _ ?_ | apply And.intro) <;> clear hK K <;> try first | (show chkD _ _ = true; kernel_rfl) | omega | rfl | (simp; done) | (simp; omega)
  refine awp_seq ?_
  refine awp_seqR (fun K hK => ?_)
  simp (maxSteps := 2000000) (disch := omega) [ints, rows, scal, wr64, wr8]
  (repeat' first | refine hK _ ?_ | apply And.intro) <;> clear hK K <;> try first | (show chkD _ _ = true; kernel_rfl) | omega | rfl | (simp; done) | (simp; omega)
  by_cases hu8 : 8 < u.length
  · refine awp_cond (b := true) (p := 2) (by simp [scal, hu8] <;> omega) ?_
    refine awp_seqR (fun K hK => ?_)
    simp (maxSteps := 2000000) (disch := omega) [ints, rows, scal, wr64, wr8]
    (repeat' apply And.intro)
    all_goals (try omega)
    refine call_rule (caps := []) (known23_fn) [] [] 2 rfl rfl rfl rfl (by kernel_rfl) (by simp) ?_ trivial trivial rfl trivial trivial (by simp) ?_
    · simp [scal, rows, ints]
    simp (maxSteps := 2000000) (disch := omega) [ints, rows, scal, wr64, wr8]
    (repeat' first | refine hK _ ?_ | apply And.intro) <;> clear hK K <;> try first | (show chkD _ _ = true; kernel_rfl) | omega | rfl | (simp; done) | (simp; omega)
    refine awp_ret ?_
    refine ⟨⟨.inr rfl, _, [], rfl, trivial, trivial, by simp, ?_⟩, by simp⟩
    simp
  · refine awp_cond (b := false) (p := 2) (by simp [scal, hu8] <;> omega) ?_
    refine awp_skip ?_
    show awp _ _ _ _
    refine awp_seqR (fun K hK => ?_)
    simp (maxSteps := 2000000) (disch := omega) [ints, rows, scal, wr64, wr8]
    (repeat' apply And.intro)
    all_goals (try omega)
    refine call_rule (caps := []) (hmod) [] [] 2 rfl rfl rfl rfl (by kernel_rfl) (by simp) ?_ trivial trivial rfl trivial trivial (by simp) ?_
    · simp [scal, rows, ints]
    simp (maxSteps := 2000000) (disch := omega) [ints, rows, scal, wr64, wr8]
    (repeat' first | refine hK _ ?_ | apply And.intro) <;> clear hK K <;> try first | (show chkD _ _ = true; kernel_rfl) | omega | rfl | (simp; done) | (simp; omega)
    refine awp_weak (σ' := mkS [(1, .t 2 (.int .i64 ((1 + m : Nat) : Int))), (6, .t 2 (rows tb)), (7, .t 2 (ints gens)), (8, .t 2 (rows u))] [] 0 72 [.any, .any]) ?_ ?_
    · refine wk_list [] rfl ?_ ?_ ?_ ?_
      all_goals try simp [ints, rows, ints]
    refine awp_seqR (fun K hK => ?_)
    simp (maxSteps := 2000000) (disch := omega) [ints, rows, scal, wr64, wr8]
    (repeat' apply And.intro)
    all_goals (try omega)
    refine call_rule (caps := []) (hF1) [] [] 2 rfl rfl rfl rfl (by kernel_rfl) (by simp) ?_ trivial trivial rfl trivial trivial (by simp) ?_
    · simp [scal, rows, ints]
    simp (maxSteps := 2000000) (disch := omega) [ints, rows, scal, wr64, wr8, findU]
    (repeat' first | refine hK _ ?_ | apply And.intro) <;> clear hK K <;> try first | (show chkD _ _ = true; kernel_rfl) | omega | rfl | (simp; done) | (simp; omega)
    refine awp_seqR (fun K hK => ?_)
    simp (maxSteps := 2000000) (disch := omega) [ints, rows, scal, wr64, wr8]
    (repeat' apply And.intro)
    all_goals (try omega)
    refine call_rule (caps := []) (hF2) [] [] 2 rfl rfl rfl rfl (by kernel_rfl) (by simp) ?_ trivial trivial rfl trivial trivial (by simp) ?_
    · simp [scal, rows, ints]
    simp (maxSteps := 2000000) (disch := omega) [ints, rows, scal, wr64, wr8, findU]
    (repeat' first | refine hK _ ?_ | apply And.intro) <;> clear hK K <;> try first | (show chkD _ _ = true; kernel_rfl) | omega | rfl | (simp; done) | (simp; omega)
    refine awp_seqR (fun K hK => ?_)
    simp (maxSteps := 2000000) (disch := omega) [ints, rows, scal, wr64, wr8]
    (repeat' apply And.intro)
    all_goals (try omega)
    refine call_rule (caps := []) (hs) [] [] 2 (by simp [scal, rows, ints]) rfl rfl rfl (by kernel_rfl) (by simp) ?_ trivial trivial rfl trivial trivial (by simp) ?_
    · simp [scal, rows, ints]
    simp (maxSteps := 2000000) (disch := omega) [ints, rows, scal, wr64, wr8]
    (repeat' apply And.intro)
    all_goals (try omega)
    refine call_rule (caps := []) (known23_fn) [] [] 2 (by simp [scal, rows, ints]) rfl rfl rfl (by kernel_rfl) (by simp) ?_ trivial trivial rfl trivial trivial (by simp) ?_
    · simp [scal, rows, ints]
    simp (maxSteps := 2000000) (disch := omega) [ints, rows, scal, wr64, wr8]
    (repeat' first | refine hK _ ?_ | apply And.intro) <;> clear hK K <;> try first | (show chkD _ _ = true; kernel_rfl) | omega | rfl | (simp; done) | (simp; omega)
    refine awp_ret ?_
    refine ⟨⟨.inr rfl, _, [], rfl, trivial, trivial, by simp, ?_⟩, by simp⟩
    simp
/-- Every element of t occurs in a division. -/
theorem occurs {t u : List (List Int)} {gens : List Int} {r : List Nat} (v1 : vErr t = 0) (vg : gensB t gens = true) (v2 : vErr u = 0) (hr : r.length = gens.length) (hlt : ∀ x ∈ r, x < u.length) (x : Nat) (hx : x < t.length) : ∃ y, y < u.length ∧ DvR (tabOf t) (tabOf u) (zp gens r) y x := by
  have ht := TbL.of v1
  have hu := TbL.of v2
  have hS : ∀ p, p ∈ zp gens r → p.1 < t.length ∧ p.2 < u.length := fun p hp => by
    obtain ⟨i, hi, rfl⟩ := zp_mem.1 hp
    exact ⟨(gens_get vg (by omega)).2, hlt _ (nthx_mem hi)⟩
  have hg := (gensB_inv vg).2 x hx
  suffices ∃ y, DvR (tabOf t) (tabOf u) (zp gens r) y x by
    obtain ⟨y, h⟩ := this
    exact ⟨y, (h.rng hS ht.lt hu.lt).1, h⟩
  clear hx
  induction hg with
  | @base x i hi e hx =>
    refine ⟨nthx r i, ?_⟩
    have : nat_ gens i = x := by unfold nat_; rw [e]; omega
    exact .base (p := (x, nthx r i)) (zp_mem.2 ⟨i, by simp only [lnx] at hi; omega, by rw [this]⟩)
  | mul _ _ ih1 ih2 =>
    obtain ⟨y1, h1⟩ := ih1
    obtain ⟨y2, h2⟩ := ih2
    exact ⟨_, h1.mul hS ht.lt hu.lt (vErr_asc v1) (vErr_asc v2) h2⟩
theorem no_smaller {t u : List (List Int)} {gens : List Int} {r : List Nat} (v1 : vErr t = 0) (vg : gensB t gens = true) (v2 : vErr u = 0) (hr : r.length = gens.length) (hlt : ∀ x ∈ r, x < u.length) (hok : okL (tabOf t) (tabOf u) gens r) : t.length ≤ u.length := by
  have h := occurs v1 vg v2 hr hlt
  have h2 : ∀ x : Nat, ∃ y, x < t.length → y < u.length ∧ DvR (tabOf t) (tabOf u) (zp gens r) y x := fun x => by
    by_cases hx : x < t.length
    · obtain ⟨y, hy⟩ := h x hx; exact ⟨y, fun _ => hy⟩
    · exact ⟨0, fun h => absurd h hx⟩
  obtain ⟨f, hf⟩ := Classical.axiomOfChoice h2
  have hnd : ((List.range t.length).map f).Nodup := by
    rw [List.nodup_iff_pairwise_ne, List.pairwise_map]
    refine List.Pairwise.imp_of_mem (R := fun a b => a ≠ b) (fun {a b} ha hb hne e => ?_) List.nodup_range
    have h1 := (hf a (by simpa using ha)).2
    have h3 := (hf b (by simpa using hb)).2
    rw [e] at h1
    exact hne (hok _ _ _ h1 h3)
  have := nodup_le (n := u.length) hnd (fun y hy => by
    obtain ⟨x, hx, rfl⟩ := List.mem_map.1 hy
    exact (hf x (by simpa using hx)).1)
  simpa [lnx] using this
set_option maxRecDepth 100000 in
set_option maxHeartbeats 8000000 in
theorem divideSmaller_fn (l : List Int) : FnA Try.prog 13 [.t 1 (ints l)] (.t 2 (.bool true)) := by
  have hnew := new_fn l
  obtain ⟨xs, hxs⟩ : ∃ xs, xs = l.take 80 := ⟨_, rfl⟩
  have hl : xs.length ≤ 80 := by rw [hxs]; simp; omega
  rw [← hxs] at hnew
  obtain ⟨res1, H1, ⟨tb, gens, b2, hG, hb2, rfl, rfl⟩, hT1⟩ := table23_fn xs 0 1 (by omega) hl (by omega)
  obtain ⟨res2, H2, ⟨u, ugens, b4, hG2, hb4, rfl, rfl⟩, hT2⟩ := table23_fn xs b2 1 hb2 hl (by omega)
  obtain ⟨ok1, ok2, ok3, ok4, ok5, ok6⟩ := hG.ok
  obtain ⟨uk1, uk2, uk3, uk4, uk5, uk6⟩ := hG2.ok
  obtain ⟨r, c, e, hR, hF1⟩ := findD_fn tb u gens 5000 ok1 ok2 uk1 (by omega) (by omega) ok3 (by omega)
  refine fn_intro Try.func13 rfl (by simp [Try.f13]) ?_
  rw [show Try.f13.ntmps = 46 from rfl, show Try.f13.results = #[.tmp 2] from rfl]
  refine awp_seqR (fun K hK => ?_)
  simp (maxSteps := 2000000) (disch := omega) [ints, rows, scal, wr64, wr8]
  (repeat' first | refine hK _ ?_ | apply And.intro) <;> clear hK K <;> try first | (show chkD _ _ = true; kernel_rfl) | omega | rfl | (simp; done) | (simp; omega)
  refine awp_seqR (fun K hK => ?_)
  simp (maxSteps := 2000000) (disch := omega) [ints, rows, scal, wr64, wr8]
  (repeat' apply And.intro)
  all_goals (try omega)
  refine call_rule (caps := []) (hnew) [] [2000000] 1 rfl rfl rfl rfl (by kernel_rfl) (by simp) ?_ ?_ (by simp) rfl (by simp) ⟨.inl ⟨by omega, by omega⟩, trivial⟩ (by simp [tpO]) ?_
  · simp [scal, rows, ints, tpO]
  · trivial
  simp (maxSteps := 2000000) (disch := omega) [ints, rows, scal, wr64, wr8, tpO]
  (repeat' first | refine hK _ ?_ | apply And.intro) <;> clear hK K <;> try first | (show chkD _ _ = true; kernel_rfl) | omega | rfl | (simp; done) | (simp; omega)
  refine awp_weak (σ' := mkS [(3, .ptr 0 0 2)] [(0, tpO 1 xs 0)] 1 46 [.any]) ?_ ?_
  · refine wk_list [(0, some 2000000)] rfl ?_ ?_ ?_ ?_
    all_goals try simp [ints, tpO, scal]
  refine awp_seqR (fun K hK => ?_)
  simp (maxSteps := 2000000) (disch := omega) [ints, rows, scal, wr64, wr8]
  (repeat' apply And.intro)
  all_goals (try omega)
  refine call_rule (caps := []) (hT1) [0] [0] 1 rfl rfl rfl rfl (by kernel_rfl) (by simp) ?_ ?_ (by simp) rfl (by simp) ⟨.inr ⟨rfl, 0, _, _, _, _, _, rfl, rfl, rfl, rfl, rfl⟩, trivial⟩ (by simp [tpO]) ?_
  · simp [scal, rows, ints, tpO]
  · simp [scal, rows, ints, tpO]
  simp (maxSteps := 2000000) (disch := omega) [ints, rows, scal, wr64, wr8, tpO]
  (repeat' first | refine hK _ ?_ | apply And.intro) <;> clear hK K <;> try first | (show chkD _ _ = true; kernel_rfl) | omega | rfl | (simp; done) | (simp; omega)
  refine awp_seqR (fun K hK => ?_)
  simp (maxSteps := 2000000) (disch := omega) [ints, rows, scal, wr64, wr8]
  (repeat' apply And.intro)
  all_goals (try omega)
  refine call_rule (caps := []) (hT2) [0] [0] 1 rfl rfl rfl rfl (by kernel_rfl) (by simp) ?_ ?_ (by simp) rfl (by simp) ⟨.inr ⟨rfl, 0, _, _, _, _, _, rfl, rfl, rfl, rfl, rfl⟩, trivial⟩ (by simp [tpO]) ?_
  · simp [scal, rows, ints, tpO]
  · simp [scal, rows, ints, tpO]
  simp (maxSteps := 2000000) (disch := omega) [ints, rows, scal, wr64, wr8, tpO]
  (repeat' first | refine hK _ ?_ | apply And.intro) <;> clear hK K <;> try first | (show chkD _ _ = true; kernel_rfl) | omega | rfl | (simp; done) | (simp; omega)
  refine awp_seq ?_
  refine awp_seqR (fun K hK => ?_)
  simp (maxSteps := 2000000) (disch := omega) [ints, rows, scal, wr64, wr8]
  (repeat' first | refine hK _ ?_ | apply And.intro) <;> clear hK K <;> try first | (show chkD _ _ = true; kernel_rfl) | omega | rfl | (simp; done) | (simp; omega)
  by_cases hle : tb.length ≤ u.length
  · refine awp_cond (b := true) (p := 2) (by simp [scal, hle] <;> omega) ?_
    refine awp_seqR (fun K hK => ?_)
    simp (maxSteps := 2000000) (disch := omega) [ints, rows, scal, wr64, wr8]
    (repeat' apply And.intro)
    all_goals (try omega)
    refine call_rule (caps := []) (known23_fn) [] [] 2 rfl rfl rfl rfl (by kernel_rfl) (by simp) ?_ trivial trivial rfl trivial trivial (by simp) ?_
    · simp [scal, rows, ints]
    simp (maxSteps := 2000000) (disch := omega) [ints, rows, scal, wr64, wr8]
    (repeat' first | refine hK _ ?_ | apply And.intro) <;> clear hK K <;> try first | (show chkD _ _ = true; kernel_rfl) | omega | rfl | (simp; done) | (simp; omega)
    refine awp_ret ?_
    refine ⟨⟨.inr rfl, _, [], rfl, trivial, trivial, by simp, ?_⟩, by simp⟩
    simp
  · have he : e = 9 ∨ e = 7 := by
      rcases hR with ⟨_, h1, h2, h3, _⟩ | ⟨h, _⟩ | ⟨h, _⟩
      · exact absurd (no_smaller ok1 ok2 uk1 h1 h2 h3) hle
      · exact .inl h
      · exact .inr h
    clear hR
    refine awp_cond (b := false) (p := 2) (by simp [scal, hle] <;> omega) ?_
    refine awp_skip ?_
    show awp _ _ _ _
    refine awp_seqR (fun K hK => ?_)
    simp (maxSteps := 2000000) (disch := omega) [ints, rows, scal, wr64, wr8]
    (repeat' apply And.intro)
    all_goals (try omega)
    refine call_rule (caps := []) (hF1) [] [] 2 rfl rfl rfl rfl (by kernel_rfl) (by simp) ?_ trivial trivial rfl trivial trivial (by simp) ?_
    · simp [scal, rows, ints]
    simp (maxSteps := 2000000) (disch := omega) [ints, rows, scal, wr64, wr8, findU]
    (repeat' first | refine hK _ ?_ | apply And.intro) <;> clear hK K <;> try first | (show chkD _ _ = true; kernel_rfl) | omega | rfl | (simp; done) | (simp; omega)
    rcases he with rfl | rfl
    all_goals
      refine awp_seqR (fun K hK => ?_)
      simp (maxSteps := 2000000) (disch := omega) [ints, rows, scal, wr64, wr8]
      (repeat' apply And.intro)
      all_goals (try omega)
      refine call_rule (caps := []) (known23_fn) [] [] 2 (by simp [scal, rows, ints]) rfl rfl rfl (by kernel_rfl) (by simp) ?_ trivial trivial rfl trivial trivial (by simp) ?_
      · simp [scal, rows, ints]
      simp (maxSteps := 2000000) (disch := omega) [ints, rows, scal, wr64, wr8]
      (repeat' first | refine hK _ ?_ | apply And.intro) <;> clear hK K <;> try first | (show chkD _ _ = true; kernel_rfl) | omega | rfl | (simp; done) | (simp; omega)
      refine awp_ret ?_
      refine ⟨⟨.inr rfl, _, [], rfl, trivial, trivial, by simp, ?_⟩, by simp⟩
      simp
end Go.Proofs.Ytgghmjnbkbiffaa.M
