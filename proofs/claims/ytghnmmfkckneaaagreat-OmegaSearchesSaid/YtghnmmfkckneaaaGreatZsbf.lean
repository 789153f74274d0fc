/-
  Walk in my logic: Trim.
-/
import Derived.Test.YtghnmmfkckneaaaGreatZsbc
namespace Go.Proofs.YtghnmmfkckneaaaGreat.M
open Go.RowKit
set_option linter.unusedVariables false
set_option maxRecDepth 100000
set_option maxHeartbeats 32000000
attribute [local simp] ints rows scal wr64 wr8
set_option linter.unusedSimpArgs false

@[simp] theorem natsT_len (ss : List Nat) : (natsT ss).length = ss.length := by simp [natsT]
theorem nodup_at {l : List Nat} (h : l.Nodup) {i j a : Nat} (hi : l[i]? = some a) (hj : l[j]? = some a) : i = j := by
 obtain ⟨hi1, hi2⟩ := List.getElem?_eq_some_iff.1 hi
 obtain ⟨hj1, hj2⟩ := List.getElem?_eq_some_iff.1 hj
 rcases Nat.lt_trichotomy i j with g | g | g
 ·exact absurd (hi2.trans hj2.symm) (List.pairwise_iff_getElem.1 h i j hi1 hj1 g)
 ·exact g
 ·exact absurd (hj2.trans hi2.symm) (List.pairwise_iff_getElem.1 h j i hj1 hi1 g)
def TrG (L n : Nat) (res : AV) : Prop := ∃ m bs nxt pl, m ≤ n ∧ DfL L m 0 bs nxt ∧ res = .tup [dfT 2 L 0 bs nxt, .t 2 (ints pl)]
theorem trim_fn {L n s : Nat} {bs : List Bool} {nxt : List (List Int)} (h : DfL L n s bs nxt) (hL : 1 ≤ L) (hL2 : L ≤ 6) (hn : n ≤ 512) : ∃ res, TrG L n res ∧ FnS Tryz.prog 95 [dfT 0 L s bs nxt] [] res [] := by
 obtain ⟨res, ⟨ss, wds, hA, rfl⟩, hacc⟩ := access_fn h hL hL2 hn
 have hnl := h.nl
 have hbl := h.bl
 have hst := h.st
 have hrt := h.rt
 have hml : ss.length ≤ n := nodupLe hA.nod hA.rng
 have hpos : 1 ≤ ss.length := (List.getElem?_eq_some_iff.1 hA.fst).1
 refine fn_introE Tryz.func95 rfl (by simp [Tryz.f95]) ?_
 rw [show Tryz.f95.ntmps = 92 from rfl, show Tryz.f95.results = #[.cell 2 67, .tmp 3] from rfl]
 refine rgS fun K hK => ?_
 simp (maxSteps := 2000000) (disch := omega) [dfT, bools]
 and_intros <;> try first | apply hK | omega | rfl | simp <;> omega
 refine rgS fun K hK => ?_
 simp (maxSteps := 2000000) (disch := omega)
 (repeat' apply And.intro)
 all_goals (try omega)
 refine callO (hacc) rfl rfl rfl rfl (by kernel_rfl) (by simp) ?_ ?_
 ·simp [dfT, bools]
 simp (maxSteps := 2000000) (disch := omega)
 and_intros <;> try first | apply hK | omega | rfl | simp <;> omega
 refine rgS fun K hK => ?_
 simp (maxSteps := 2000000) (disch := omega)
 and_intros <;> try first | apply hK | omega | rfl | simp <;> omega
 refine awp_seq ?_
 refine rgS fun K hK => ?_
 simp (maxSteps := 2000000) (disch := omega) [hbl]
 and_intros <;> try first | apply hK | omega | rfl | simp <;> omega
 refine awp_block ?_
 refine awp_loop (fun y : Nat => mkS [(1, .ptr 0 0 4), (2, .ptr 1 0 4), (4, .t 2 (.sl 1 (natsT ss))), (6, .own 2 n), (26, .t 2 (.int .i64 n)), (27, .t 2 (.int .i64 y))] [(0, .box 67 [.t 2 (.int .i64 L), .t 2 (.int .i64 s), .t 0 (bools bs), .t 0 (rows nxt)]), (1, .box 67 [.any, .any, .any, .any]), (2, .row 3 1 2 (tab n fun i => .int .i64 (if i < y then -1 else 0)))] 3 92 [.any]) (fun y => y ≤ n) (fun y => n - y) ?_ ?_
 ·refine ⟨0, by omega, ?_⟩
  refine wk_list [(0, some 0), (1, some 1000000), (2, some 13000000)] rfl ?_ ?_ ?_ ?_
  all_goals try simp [bools, natsT, dfT, hbl, rep_tab]
 ·intro k hk
  refine rgS fun K hK => ?_
  simp (maxSteps := 2000000) (disch := omega)
  and_intros <;> try first | apply hK | omega | rfl | simp <;> omega
  refine awp_seq ?_
  by_cases hkn : k < n
  ·refine condT (by simp [hkn] <;> omega) ?_
   refine awp_skip ?_
   show awp _ _ _ _
   refine awp_seq ?_
   refine awp_block ?_
   refine rgS fun K hK => ?_
   simp (maxSteps := 2000000) (disch := omega)
   and_intros <;> try first | apply hK | omega | rfl | simp <;> omega
   refine rgL fun K hK => ?_
   simp (maxSteps := 2000000) (disch := omega) [hkn]
   and_intros <;> try first | apply hK | omega | rfl | simp <;> omega
   show awp _ _ _ _
   refine rgL fun K hK => ?_
   simp (maxSteps := 2000000) (disch := omega)
   (repeat' first | apply hK | apply And.intro) <;> try first | omega | rfl | (simp <;> omega)
   refine ⟨k + 1, by omega, by omega, ?_⟩
   refine wk_list [(0, some 0), (1, some 1), (2, some 2)] rfl ?_ ?_ ?_ ?_
   all_goals try simp [bools, tab_set]
   refine tab_congr (fun i hi => ?_)
   by_cases e : i = k
   ·simp [e]
   ·rw [if_neg e]
    by_cases e2 : i < k
    ·rw [if_pos e2, if_pos (by omega)]
    ·rw [if_neg e2, if_neg (by omega)]
  ·have hke : k = n := by omega
   subst hke
   refine condF (by simp <;> omega) ?_
   refine awp_exit ?_
   show awp _ _ _ _
   refine awp_seq ?_
   refine rgS fun K hK => ?_
   simp (maxSteps := 2000000) (disch := omega)
   and_intros <;> try first | apply hK | omega | rfl | simp <;> omega
   refine awp_block ?_
   refine awp_loop (fun y : Nat × (Nat → Int) => mkS [(1, .ptr 0 0 4), (2, .ptr 1 0 4), (4, .t 2 (.sl 1 (natsT ss))), (6, .own 2 k), (34, .t 2 (.sl 1 (natsT ss))), (35, .t 2 (.int .i64 ss.length)), (36, .t 2 (.int .i64 y.1))] [(0, .box 67 [.t 2 (.int .i64 L), .t 2 (.int .i64 s), .t 0 (bools bs), .t 0 (rows nxt)]), (1, .box 67 [.any, .any, .any, .any]), (2, .row 3 1 2 (tab k fun i => .int .i64 (y.2 i)))] 3 92 [.any]) (fun y => y.1 ≤ ss.length ∧ ∀ (j : Nat) q, j < y.1 → ss[j]? = some q → y.2 q = j) (fun y => ss.length - y.1) ?_ ?_
   ·refine ⟨(0, fun i => if i < k then -1 else 0), ⟨by simp, fun j q hj => by simp at hj⟩, ?_⟩
    refine wk_list [(0, some 0), (1, some 1), (2, some 2)] rfl ?_ ?_ ?_ ?_
    all_goals try simp [bools, natsT]
   ·rintro ⟨i, pl⟩ ⟨hi, hpl⟩
    simp only at hi hpl
    refine rgS fun K hK => ?_
    simp (maxSteps := 2000000) (disch := omega)
    and_intros <;> try first | apply hK | omega | rfl | simp <;> omega
    refine awp_seq ?_
    by_cases hil : i < ss.length
    ·have hsn := hA.rng ss[i] (by simp)
     refine condT (by simp [hil] <;> omega) ?_
     refine awp_skip ?_
     show awp _ _ _ _
     refine awp_seq ?_
     refine awp_block ?_
     refine rgS fun K hK => ?_
     simp (maxSteps := 2000000) (disch := omega) [natsT, hil]
     and_intros <;> try first | apply hK | omega | rfl | simp <;> omega
     refine rgL fun K hK => ?_
     simp (maxSteps := 2000000) (disch := omega) [hsn]
     and_intros <;> try first | apply hK | omega | rfl | simp <;> omega
     show awp _ _ _ _
     refine rgL fun K hK => ?_
     simp (maxSteps := 2000000) (disch := omega)
     (repeat' first | apply hK | apply And.intro) <;> try first | omega | rfl | (simp <;> omega)
     refine ⟨(i + 1, fun q => if q = ss[i] then (i : Int) else pl q), ⟨by omega, fun j q hj hq => ?_⟩, by simp; omega, ?_⟩
     ·by_cases e : q = ss[i]
      ·simp only [if_pos e]
       have hjl := (List.getElem?_eq_some_iff.1 hq).1
       have : j = i := nodup_at hA.nod hq (by rw [e]; simp)
       omega
      ·simp only [if_neg e]
       by_cases e2 : j = i
       ·subst e2
        rw [List.getElem?_eq_getElem hil] at hq
        injection hq with hq
        exact absurd hq.symm e
       ·exact hpl j q (by simp at hj; omega) hq
     ·refine wk_list [(0, some 0), (1, some 1), (2, some 2)] rfl ?_ ?_ ?_ ?_
      all_goals try simp [bools, natsT, tab_set]
      refine tab_congr (fun j hj => ?_)
      by_cases e : j = ss[i] <;> simp [e]
    ·have hie : i = ss.length := by omega
     subst hie
     have hplc : ∀ q ∈ ss, 0 ≤ pl q ∧ pl q < (ss.length : Int) := fun q hq => by
      obtain ⟨j, hj, e⟩ := List.getElem_of_mem hq
      have := hpl j q hj (by simp [← e])
      omega
     refine condF (by simp <;> omega) ?_
     refine awp_exit ?_
     show awp _ _ _ _
     refine rgS fun K hK => ?_
     simp (maxSteps := 2000000) (disch := omega)
     and_intros <;> try first | apply hK | omega | rfl | simp <;> omega
     refine awp_seq ?_
     refine rgS fun K hK => ?_
     simp (maxSteps := 2000000) (disch := omega)
     and_intros <;> try first | apply hK | omega | rfl | simp <;> omega
     refine awp_block ?_
     refine awp_loop (fun y : Nat × List Bool × List (List Int) => mkS [(1, .ptr 0 0 4), (2, .ptr 1 0 4), (6, .own 2 k), (10, .ptr 3 0 4), (49, .t 2 (.sl 1 (natsT ss))), (50, .t 2 (.int .i64 ss.length)), (51, .t 2 (.int .i64 y.1))] [(0, .box 67 [.t 2 (.int .i64 L), .t 2 (.int .i64 s), .t 0 (bools bs), .t 0 (rows nxt)]), (1, .box 67 [.any, .any, .any, .any]), (2, .row 3 1 2 (tab k fun i => .int .i64 (pl i))), (3, .box 67 [.t 2 (.int .i64 L), .t 2 (.int .i64 0), .own 4 y.1, .own 5 y.1]), (4, .row 4 1 2 (y.2.1.map .bool)), (5, .row 22 1 2 (y.2.2.map ints))] 6 92 [.any]) (fun y => y.1 ≤ ss.length ∧ y.2.1.length = y.1 ∧ y.2.2.length = y.1 ∧ ∀ r ∈ y.2.2, r.length = L ∧ ∀ v ∈ r, 0 ≤ v ∧ v < (ss.length : Int)) (fun y => ss.length - y.1) ?_ ?_
     ·refine ⟨(0, [], []), ⟨by simp, rfl, rfl, fun r hr => by simp at hr⟩, ?_⟩
      refine wk_list [(0, some 0), (1, some 1), (2, some 2), (3, some 4000003), (4, none), (5, none)] rfl ?_ ?_ ?_ ?_
      all_goals try simp [bools, natsT]
     ·rintro ⟨i, bs', nx'⟩ ⟨hi, hbl', hnl', hrow'⟩
      simp only at hi hbl' hnl' hrow'
      refine rgS fun K hK => ?_
      simp (maxSteps := 2000000) (disch := omega)
      and_intros <;> try first | apply hK | omega | rfl | simp <;> omega
      refine awp_seq ?_
      by_cases hil : i < ss.length
      ·have hsn := hA.rng ss[i] (by simp)
       have hsx : ss[i] < nxt.length := by omega
       have hsb : ss[i] < bs.length := by omega
       obtain ⟨hrl, -⟩ := h.row nxt[ss[i]] (by simp)
       refine condT (by simp [hil] <;> omega) ?_
       refine awp_skip ?_
       show awp _ _ _ _
       refine awp_seq ?_
       refine awp_block ?_
       refine rgS fun K hK => ?_
       simp (maxSteps := 2000000) (disch := omega) [natsT, hil]
       and_intros <;> try first | apply hK | omega | rfl | simp <;> omega
       refine rgS fun K hK => ?_
       simp (maxSteps := 2000000) (disch := omega)
       and_intros <;> try first | apply hK | omega | rfl | simp <;> omega
       refine awp_seq ?_
       refine rgS fun K hK => ?_
       simp (maxSteps := 2000000) (disch := omega) [hsx, hrl]
       and_intros <;> try first | apply hK | omega | rfl | simp <;> omega
       refine awp_block ?_
       refine awp_loop (fun y : Nat × List Int => mkS [(1, .ptr 0 0 4), (2, .ptr 1 0 4), (6, .own 2 k), (10, .ptr 3 0 4), (12, .t 2 (.int .i64 ss[i])), (13, .own 6 y.1), (49, .t 2 (.sl 1 (natsT ss))), (50, .t 2 (.int .i64 ss.length)), (51, .t 2 (.int .i64 i)), (59, .t 0 (ints nxt[ss[i]])), (60, .t 2 (.int .i64 L)), (61, .t 2 (.int .i64 y.1))] [(0, .box 67 [.t 2 (.int .i64 L), .t 2 (.int .i64 s), .t 0 (bools bs), .t 0 (rows nxt)]), (1, .box 67 [.any, .any, .any, .any]), (2, .row 3 1 2 (tab k fun i => .int .i64 (pl i))), (3, .box 67 [.t 2 (.int .i64 L), .t 2 (.int .i64 0), .own 4 i, .own 5 i]), (4, .row 4 1 2 (bs'.map .bool)), (5, .row 22 1 2 (nx'.map ints)), (6, .row 3 1 2 (y.2.map (.int .i64)))] 7 92 [.any]) (fun y => y.1 ≤ L ∧ y.2.length = y.1 ∧ ∀ v ∈ y.2, 0 ≤ v ∧ v < (ss.length : Int)) (fun y => L - y.1) ?_ ?_
       ·refine ⟨(0, []), ⟨by simp, rfl, fun v hv => by simp at hv⟩, ?_⟩
        refine wk_list [(0, some 0), (1, some 1), (2, some 2), (3, some 3), (4, some 4), (5, some 5), (6, none)] rfl ?_ ?_ ?_ ?_
        all_goals try simp [bools, natsT]
       ·rintro ⟨x, r⟩ ⟨hx, hrl2, hrv⟩
        simp only at hx hrl2 hrv
        refine rgS fun K hK => ?_
        simp (maxSteps := 2000000) (disch := omega)
        and_intros <;> try first | apply hK | omega | rfl | simp <;> omega
        refine awp_seq ?_
        by_cases hxl : x < L
        ·obtain ⟨s1, s2, s3, s4⟩ := hrt.step hsn hxl
         have hpv := hplc _ (hA.cl ss[i] (by simp) x hxl)
         refine condT (by simp [hxl] <;> omega) ?_
         refine awp_skip ?_
         show awp _ _ _ _
         refine awp_seq ?_
         refine awp_block ?_
         refine rgS fun K hK => ?_
         simp (maxSteps := 2000000) (disch := omega) [s3, s4]
         and_intros <;> try first | apply hK | omega | rfl | simp <;> omega
         refine rgL fun K hK => ?_
         simp (maxSteps := 2000000) (disch := omega) [s1]
         and_intros <;> try first | apply hK | omega | rfl | simp <;> omega
         show awp _ _ _ _
         refine rgL fun K hK => ?_
         simp (maxSteps := 2000000) (disch := omega)
         (repeat' first | apply hK | apply And.intro) <;> try first | omega | rfl | (simp <;> omega)
         refine ⟨(x + 1, r ++ [pl (stepR nxt ss[i] x)]), ⟨by omega, by simp [hrl2], fun v hv => ?_⟩, by simp; omega, ?_⟩
         ·rcases List.mem_append.1 hv with hv | hv
          ·exact hrv v hv
          ·simp at hv; rw [hv]; exact hpv
         ·refine wk_list [(0, some 0), (1, some 1), (2, some 2), (3, some 3), (4, some 4), (5, some 5), (6, some 6)] rfl ?_ ?_ ?_ ?_
          all_goals try simp [bools, natsT, hrl2]
        ·have hxe : x = L := by omega
         refine condF (by simp [hxl] <;> omega) ?_
         refine awp_exit ?_
         show awp _ _ _ _
         refine awp_RD (by kernel_rfl) (fun K hK => ?_)
         simp (maxSteps := 2000000) (disch := omega) [hsb]
         and_intros <;> try first | apply hK | (show chkD _ _ = true; kernel_rfl) | omega | rfl | simp <;> omega
         show awp _ _ _ _
         refine rgL fun K hK => ?_
         simp (maxSteps := 2000000) (disch := omega)
         (repeat' first | apply hK | apply And.intro) <;> try first | omega | rfl | (simp <;> omega)
         refine ⟨(i + 1, bs' ++ [bs[ss[i]]], nx' ++ [r]), ⟨by omega, by simp [hbl'], by simp [hnl'], fun u hu => ?_⟩, by simp; omega, ?_⟩
         ·rcases List.mem_append.1 hu with hu | hu
          ·exact hrow' u hu
          ·simp at hu
           subst hu
           exact ⟨by omega, hrv⟩
         ·refine wk_list [(0, some 0), (1, some 1), (2, some 2), (3, some 3), (4, some 4), (5, some 5)] rfl ?_ ?_ ?_ ?_
          all_goals try simp [bools, natsT, hbl', hnl']
      ·have hie : i = ss.length := by omega
       refine condF (by simp [hil] <;> omega) ?_
       refine awp_exit ?_
       show awp _ _ _ _
       refine rgS fun K hK => ?_
       simp (maxSteps := 2000000) (disch := omega)
       and_intros <;> try first | apply hK | omega | rfl | simp <;> omega
       refine awp_ret ?_
       refine ⟨_, ⟨ss.length, bs', nx', tab k pl, hml, ⟨hpos, hpos, by omega, by omega, hrow'⟩, rfl⟩, ?_⟩
       refine ⟨⟨.inr rfl, _, [], (by simp; rfl), trivial, trivial, by simp [dfT, bools, hbl', hnl', tab_map], ?_⟩, by simp [dfT, bools, hbl', hnl', tab_map]⟩
       simp [dfT, bools, hbl', hnl', tab_map]
end Go.Proofs.YtghnmmfkckneaaaGreat.M
