/-
  Walks in my logic: Minimal (semigroupref08).
-/
import Derived.Test.YtghnmmfkckneaaaGreatZsbe
import Derived.Test.YtghnmmfkckneaaaGreatZsbf
namespace Go.Proofs.YtghnmmfkckneaaaGreat.M
open Go.RowKit
set_option linter.unusedVariables false
set_option maxRecDepth 100000
set_option maxHeartbeats 32000000
attribute [local simp] ints rows scal wr64 wr8
set_option linter.unusedSimpArgs false

def MiG (L n : Nat) (res : AV) : Prop := ∃ m bs nxt, m ≤ n ∧ DfL L m 0 bs nxt ∧ res = dfT 2 L 0 bs nxt
theorem minimal_fn {L n s : Nat} {bs : List Bool} {nxt : List (List Int)} (h : DfL L n s bs nxt) (hL : 1 ≤ L) (hL2 : L ≤ 6) (hn : n ≤ 512) : ∃ res, MiG L n res ∧ FnS Tryz.prog 61 [dfT 0 L s bs nxt] [] res [] := by
 have hnl := h.nl
 have hbl := h.bl
 have hst := h.st
 have hn1 := h.n1
 have hrt := h.rt
 obtain ⟨res0, ⟨p, hC, rfl⟩, hcls⟩ := classes_fn h hL hL2 hn
 have hp := hC.ok
 have hps := natL_get (r := p) hst
 have hcn := cv_le p n
 refine fn_introE Tryz.func61 rfl (by simp [Tryz.f61]) ?_
 rw [show Tryz.f61.ntmps = 74 from rfl, show Tryz.f61.results = #[.cell 2 67] from rfl]
 refine rgS fun K hK => ?_
 simp (maxSteps := 2000000) (disch := omega) [dfT, bools]
 and_intros <;> try first | apply hK | omega | rfl | simp <;> omega
 refine rgS fun K hK => ?_
 simp (maxSteps := 2000000) (disch := omega)
 (repeat' apply And.intro)
 all_goals (try omega)
 refine callO (hcls) rfl rfl rfl rfl (by kernel_rfl) (by simp) ?_ ?_
 ·simp [dfT, bools]
 simp (maxSteps := 2000000) (disch := omega)
 and_intros <;> try first | apply hK | omega | rfl | simp <;> omega
 refine awp_seqD (by kernel_rfl) (fun K hK => ?_)
 simp (maxSteps := 2000000) (disch := omega) [natL, tab_map, hst]
 and_intros <;> try first | apply hK | (show chkD _ _ = true; kernel_rfl) | omega | rfl | simp <;> omega
 refine rgS fun K hK => ?_
 simp (maxSteps := 2000000) (disch := omega)
 and_intros <;> try first | apply hK | omega | rfl | simp <;> omega
 refine awp_seq ?_
 refine rgS fun K hK => ?_
 simp (maxSteps := 2000000) (disch := omega)
 and_intros <;> try first | apply hK | omega | rfl | simp <;> omega
 refine awp_block ?_
 refine awp_loop (fun y : Nat × List Bool × List (List Int) => mkS [(1, .ptr 0 0 4), (2, .ptr 1 0 4), (3, .t 2 (ints (natL n p))), (4, .ptr 2 0 4), (5, .t 2 (.int .i64 (cv p y.1))), (21, .t 2 (ints (natL n p))), (22, .t 2 (.int .i64 n)), (23, .t 2 (.int .i64 y.1))] [(0, .box 67 [.t 2 (.int .i64 L), .t 2 (.int .i64 s), .t 0 (bools bs), .t 0 (rows nxt)]), (1, .box 67 [.any, .any, .any, .any]), (2, .box 67 [.t 2 (.int .i64 L), .t 2 (.int .i64 (p s)), .own 3 y.2.1.length, .own 4 y.2.2.length]), (3, .row 4 1 2 (y.2.1.map .bool)), (4, .row 22 1 2 (y.2.2.map ints))] 5 74 [.any]) (fun y => y.1 ≤ n ∧ y.2.1.length = cv p y.1 ∧ y.2.2.length = cv p y.1 ∧ ∀ r ∈ y.2.2, r.length = L ∧ ∀ v ∈ r, 0 ≤ v ∧ v < (cv p n : Int)) (fun y => n - y.1) ?_ ?_
 ·refine ⟨(0, [], []), ⟨by simp, rfl, rfl, fun r hr => by simp at hr⟩, ?_⟩
  refine wk_list [(0, some 0), (1, some 1000000), (2, some 13000000), (3, none), (4, none)] rfl ?_ ?_ ?_ ?_
  all_goals try simp [bools, dfT, natL, tab_map, cv]
 ·rintro ⟨q, bs', nx'⟩ ⟨hq, hbl', hnl', hrow'⟩
  simp only at hq hbl' hnl' hrow'
  have hcq := cv_le p q
  refine rgS fun K hK => ?_
  simp (maxSteps := 2000000) (disch := omega)
  and_intros <;> try first | apply hK | omega | rfl | simp <;> omega
  refine awp_seq ?_
  by_cases hqn : q < n
  ·have hqx : q < nxt.length := by omega
   have hqb : q < bs.length := by omega
   obtain ⟨hrl, -⟩ := h.row nxt[q] (by simp)
   have hcs : cv p (q + 1) = if p q = cv p q then cv p q + 1 else cv p q := rfl
   refine condT (by simp [hqn] <;> omega) ?_
   refine awp_skip ?_
   show awp _ _ _ _
   refine awp_seq ?_
   refine awp_block ?_
   refine rgS fun K hK => ?_
   simp (maxSteps := 2000000) (disch := omega) [natL, tab_map, hqn]
   and_intros <;> try first | apply hK | omega | rfl | simp <;> omega
   refine awp_seq ?_
   by_cases hpq : p q = cv p q
   ·rw [if_pos hpq] at hcs
    have hpi : (p q : Int) = (cv p q : Int) := by omega
    refine rgS fun K hK => ?_
    simp (maxSteps := 2000000) (disch := omega) [hpi]
    and_intros <;> try first | apply hK | omega | rfl | simp <;> omega
    refine condF (by simp <;> omega) ?_
    refine awp_skip ?_
    show awp _ _ _ _
    refine rgS fun K hK => ?_
    simp (maxSteps := 2000000) (disch := omega)
    and_intros <;> try first | apply hK | omega | rfl | simp <;> omega
    refine rgS fun K hK => ?_
    simp (maxSteps := 2000000) (disch := omega)
    and_intros <;> try first | apply hK | omega | rfl | simp <;> omega
    refine awp_seq ?_
    refine rgS fun K hK => ?_
    simp (maxSteps := 2000000) (disch := omega) [hqx, hrl]
    and_intros <;> try first | apply hK | omega | rfl | simp <;> omega
    refine awp_block ?_
    refine awp_loop (fun y : Nat × List Int => mkS [(1, .ptr 0 0 4), (2, .ptr 1 0 4), (3, .t 2 (ints (natL n p))), (4, .ptr 2 0 4), (5, .t 2 (.int .i64 ((cv p q : Int) + 1))), (6, .t 2 (.int .i64 q)), (8, .own 5 y.1), (21, .t 2 (ints (natL n p))), (22, .t 2 (.int .i64 n)), (23, .t 2 (.int .i64 q)), (37, .t 0 (ints nxt[q])), (38, .t 2 (.int .i64 L)), (39, .t 2 (.int .i64 y.1))] [(0, .box 67 [.t 2 (.int .i64 L), .t 2 (.int .i64 s), .t 0 (bools bs), .t 0 (rows nxt)]), (1, .box 67 [.any, .any, .any, .any]), (2, .box 67 [.t 2 (.int .i64 L), .t 2 (.int .i64 (p s)), .own 3 bs'.length, .own 4 nx'.length]), (3, .row 4 1 2 (bs'.map .bool)), (4, .row 22 1 2 (nx'.map ints)), (5, .row 3 1 2 (y.2.map (.int .i64)))] 6 74 [.any]) (fun y => y.1 ≤ L ∧ y.2.length = y.1 ∧ ∀ v ∈ y.2, 0 ≤ v ∧ v < (cv p n : Int)) (fun y => L - y.1) ?_ ?_
    ·refine ⟨(0, []), ⟨by simp, rfl, fun v hv => by simp at hv⟩, ?_⟩
     refine wk_list [(0, some 0), (1, some 1), (2, some 2), (3, some 3), (4, some 4), (5, none)] rfl ?_ ?_ ?_ ?_
     all_goals try simp [bools, natL, tab_map]
    ·rintro ⟨x, r⟩ ⟨hx, hrl2, hrv⟩
     simp only at hx hrl2 hrv
     refine rgS fun K hK => ?_
     simp (maxSteps := 2000000) (disch := omega)
     and_intros <;> try first | apply hK | omega | rfl | simp <;> omega
     refine awp_seq ?_
     by_cases hxl : x < L
     ·obtain ⟨s1, s2, s3, s4⟩ := hrt.step hqn hxl
      have hpv := hp.lt s1 s1
      refine condT (by simp [hxl] <;> omega) ?_
      refine awp_skip ?_
      show awp _ _ _ _
      refine awp_seq ?_
      refine awp_block ?_
      refine rgS fun K hK => ?_
      simp (maxSteps := 2000000) (disch := omega) [s3, s4]
      and_intros <;> try first | apply hK | omega | rfl | simp <;> omega
      refine rgL fun K hK => ?_
      simp (maxSteps := 2000000) (disch := omega) [natL, tab_map, s1]
      and_intros <;> try first | apply hK | omega | rfl | simp <;> omega
      show awp _ _ _ _
      refine rgL fun K hK => ?_
      simp (maxSteps := 2000000) (disch := omega)
      (repeat' first | apply hK | apply And.intro) <;> try first | omega | rfl | (simp <;> omega)
      refine ⟨(x + 1, r ++ [(p (stepR nxt q x) : Int)]), ⟨by omega, by simp [hrl2], fun v hv => ?_⟩, by simp; omega, ?_⟩
      ·rcases List.mem_append.1 hv with hv | hv
       ·exact hrv v hv
       ·simp at hv; omega
      ·refine wk_list [(0, some 0), (1, some 1), (2, some 2), (3, some 3), (4, some 4), (5, some 5)] rfl ?_ ?_ ?_ ?_
       all_goals try simp [bools, hrl2, natL, tab_map]
     ·have hxe : x = L := by omega
      refine condF (by simp [hxl] <;> omega) ?_
      refine awp_exit ?_
      show awp _ _ _ _
      refine awp_RD (by kernel_rfl) (fun K hK => ?_)
      simp (maxSteps := 2000000) (disch := omega) [hqb]
      and_intros <;> try first | apply hK | (show chkD _ _ = true; kernel_rfl) | omega | rfl | simp <;> omega
      show awp _ _ _ _
      refine rgL fun K hK => ?_
      simp (maxSteps := 2000000) (disch := omega)
      (repeat' first | apply hK | apply And.intro) <;> try first | omega | rfl | (simp <;> omega)
      refine ⟨(q + 1, bs' ++ [bs[q]], nx' ++ [r]), ⟨by omega, by simp [hbl', hcs], by simp [hnl', hcs], fun u hu => ?_⟩, by simp; omega, ?_⟩
      ·rcases List.mem_append.1 hu with hu | hu
       ·exact hrow' u hu
       ·simp at hu
        subst hu
        exact ⟨by omega, hrv⟩
      ·refine wk_list [(0, some 0), (1, some 1), (2, some 2), (3, some 3), (4, some 4)] rfl ?_ ?_ ?_ ?_
       all_goals try simp [bools, natL, tab_map, hcs]
   ·rw [if_neg hpq] at hcs
    have hpi : ¬ (p q : Int) = (cv p q : Int) := by omega
    refine rgS fun K hK => ?_
    simp (maxSteps := 2000000) (disch := omega) [hpi]
    and_intros <;> try first | apply hK | omega | rfl | simp <;> omega
    refine condT (by simp [hpi] <;> omega) ?_
    refine awp_exit ?_
    show awp _ _ _ _
    refine rgL fun K hK => ?_
    simp (maxSteps := 2000000) (disch := omega)
    (repeat' first | apply hK | apply And.intro) <;> try first | omega | rfl | (simp <;> omega)
    refine ⟨(q + 1, bs', nx'), ⟨by omega, by rw [hcs]; exact hbl', by rw [hcs]; exact hnl', hrow'⟩, by simp; omega, ?_⟩
    refine wk_list [(0, some 0), (1, some 1), (2, some 2), (3, some 3), (4, some 4)] rfl ?_ ?_ ?_ ?_
    all_goals try simp [bools, natL, tab_map, hcs]
  ·have hqe : q = n := by omega
   subst hqe
   have hc1 : 1 ≤ cv p q := by
    have h1 := cv_mono p (show 1 ≤ q from hn1)
    have h2 := hp 0 (by omega)
    have h3 : cv p 1 = if p 0 = cv p 0 then cv p 0 + 1 else cv p 0 := rfl
    have h4 : cv p 0 = 0 := rfl
    rw [if_pos (by omega)] at h3
    omega
   have hD : DfL L (cv p q) (p s) bs' nx' := ⟨hc1, hp.lt hst hst, hbl', hnl', hrow'⟩
   obtain ⟨res2, ⟨m, bs2, nx2, pl, hm, hD2, rfl⟩, htr⟩ := trim_fn hD hL hL2 (by omega)
   refine condF (by simp [hqn] <;> omega) ?_
   refine awp_exit ?_
   show awp _ _ _ _
   refine rgS fun K hK => ?_
   simp (maxSteps := 2000000) (disch := omega)
   (repeat' apply And.intro)
   all_goals (try omega)
   refine callO (htr) rfl rfl rfl rfl (by kernel_rfl) (by simp) ?_ ?_
   ·simp [dfT, bools]
   simp (maxSteps := 2000000) (disch := omega) [dfT, bools]
   and_intros <;> try first | apply hK | omega | rfl | simp <;> omega
   refine rgS fun K hK => ?_
   simp (maxSteps := 2000000) (disch := omega)
   and_intros <;> try first | apply hK | omega | rfl | simp <;> omega
   refine awp_ret ?_
   refine ⟨_, ⟨m, bs2, nx2, by omega, hD2, rfl⟩, ?_⟩
   refine ⟨⟨.inr rfl, _, [], (by simp; rfl), trivial, trivial, by simp [dfT, bools], ?_⟩, by simp [dfT, bools]⟩
   simp [dfT, bools]
end Go.Proofs.YtghnmmfkckneaaaGreat.M
