/-
  Walk in my logic: classes (monomial).
-/
import Derived.Test.YtnffigeofdagfaaDoorZmar
import Derived.Test.YtnffigeofdagfaaDoorZmas
namespace Go.Proofs.YtnffigeofdagfaaDoor.M
open Go.RowKit
set_option linter.unusedVariables false
set_option linter.unusedSimpArgs false

theorem nI_at {nx : List Nat} {i : Nat} (h : i < nx.length) : (nI nx)[i]? = some ((nx.getD i 0 : Nat) : Int) := by
 rw [nI_get h, List.getD_eq_getElem?_getD, List.getElem?_eq_getElem h]
 rfl
def nxN (nx : List Nat) (L i a : Nat) : Nat := nx.getD (i * L + a) 0
structure McI (L n : Nat) (nx : List Nat) (fb : List Bool) : Prop where
 n1 : 1 ≤ n
 n4 : n ≤ 4096
 l1 : 1 ≤ L
 l2 : L ≤ 6
 fl : fb.length = n
 nl : nx.length = n * L
 lt : ∀ a i, a < L → i < n → nx.getD (i * L + a) 0 < n
def mcT (L : Nat) (nx : List Nat) (fb : List Bool) : List T := [.int .i64 L, ints (nI nx), bools fb]
def fnM (fb : List Bool) (i : Nat) : Nat := if fb.getD i false = true then 1 else 0
set_option maxRecDepth 100000 in
set_option maxHeartbeats 8000000 in
theorem mclasses_fn {L n : Nat} {nx : List Nat} {fb : List Bool} (h : McI L n nx fb) : ∃ res, (∃ c k, ClI nx fb L n c k ∧ (k ≤ 512 → Cong nx L n c L) ∧ res = .tup [.t 2 (.sl 1 (rwN n c)), .t 2 (.int .i64 (k : Nat))]) ∧ FnS Tryd.prog 67 [.pt 0 (mcT L nx fb)] [] res [] := by
 have hn1 := h.n1
 have hn4 := h.n4
 have hl1 := h.l1
 have hl2 := h.l2
 have hfl := h.fl
 refine fn_introE Tryd.func67 rfl (by simp [Tryd.f67]) ?_
 rw [show Tryd.f67.ntmps = 95 from rfl, show Tryd.f67.results = #[.tmp 2, .tmp 3] from rfl]
 refine awp_seqR fun K hK => ?_
 simp (maxSteps := 2000000) (disch := omega) [ints, rows, scal, wr64, wr8]
 (repeat' first | apply hK | apply And.intro) <;> try first | (show okH _ _ _ = true; kernel_rfl) | omega | rfl | (simp <;> omega)
 refine awp_seqR fun K hK => ?_
 simp (maxSteps := 2000000) (disch := omega) [ints, rows, scal, wr64, wr8, mcT, bools, hfl]
 (repeat' first | apply hK | apply And.intro) <;> try first | (show okH _ _ _ = true; kernel_rfl) | omega | rfl | (simp <;> omega)
 refine awp_seqR fun K hK => ?_
 simp (maxSteps := 2000000) (disch := omega) [ints, rows, scal, wr64, wr8, mcT, bools, hfl]
 (repeat' first | apply hK | apply And.intro) <;> try first | (show okH _ _ _ = true; kernel_rfl) | omega | rfl | (simp <;> omega)
 refine awp_seq ?_
 refine awp_seqR fun K hK => ?_
 simp (maxSteps := 2000000) (disch := omega) [ints, rows, scal, wr64, wr8, mcT, bools, hfl]
 (repeat' first | apply hK | apply And.intro) <;> try first | (show okH _ _ _ = true; kernel_rfl) | omega | rfl | (simp <;> omega)
 refine awp_block ?_
 refine awp_loop (fun y : Nat => mkS [(0, .pt 0 (mcT L nx fb)), (4, .own 0 n), (5, .own 1 n), (27, .t 0 (bools fb)), (28, .t 2 (.int .i64 n)), (29, .t 2 (.int .i64 y))] [(0, .row 3 1 2 (rwN n fun _ => 0)), (1, .row 3 1 2 (rwN n fun i => if i < y then fnM fb i else 0))] 2 95 [.any]) (fun y => y ≤ n) (fun y => n - y) ?_ ?_
 ·refine ⟨0, by omega, ?_⟩
  refine wk_list [(0, some 7000000), (1, some 14000000)] rfl ?_ ?_ ?_ ?_
  all_goals try simp [ints, rwN_zero, mcT, bools]
 intro k hk
 refine awp_seqR fun K hK => ?_
 simp (maxSteps := 2000000) (disch := omega) [ints, rows, scal, wr64, wr8]
 (repeat' first | apply hK | apply And.intro) <;> try first | (show okH _ _ _ = true; kernel_rfl) | omega | rfl | (simp <;> omega)
 refine awp_seq ?_
 by_cases hkn : k < n
 ·refine awp_cond (b := true) (p := 2) (by simp [scal, hkn] <;> omega) ?_
  have hkb : k < fb.length := by omega
  have hv : fb.getD k false = fb[k] := by simp [List.getD_eq_getElem?_getD, hkb]
  refine awp_skip ?_
  show awp _ _ _ _
  refine awp_seq ?_
  refine awp_block ?_
  refine awp_seqR fun K hK => ?_
  simp (maxSteps := 2000000) (disch := omega) [ints, rows, scal, wr64, wr8, bools, hkb, hfl]
  (repeat' first | apply hK | apply And.intro) <;> try first | (show okH _ _ _ = true; kernel_rfl) | omega | rfl | (simp <;> omega)
  refine awp_seqR fun K hK => ?_
  simp (maxSteps := 2000000) (disch := omega) [ints, rows, scal, wr64, wr8]
  (repeat' first | apply hK | apply And.intro) <;> try first | (show okH _ _ _ = true; kernel_rfl) | omega | rfl | (simp <;> omega)
  cases hb : fb[k] with
  | true =>
   have hrw : rwN n (fun i => if i = k then 1 else if i < k then fnM fb i else 0) = rwN n (fun i => if i < k + 1 then fnM fb i else 0) := rwN_congr fun i hi => by
    by_cases e : i = k
    ·subst e
     rw [if_pos rfl, if_pos (by omega), fnM, if_pos (by rw [hv, hb])]
    ·rw [if_neg e]
     by_cases e2 : i < k
     ·rw [if_pos e2, if_pos (by omega)]
     ·rw [if_neg e2, if_neg (by omega)]
   have hst : (rwN n (fun i => if i < k then fnM fb i else 0)).set k (.int .i64 1) = rwN n (fun i => if i = k then 1 else if i < k then fnM fb i else 0) := rwN_set n (fun i => if i < k then fnM fb i else 0) k 1
   refine awp_cond (b := true) (p := 2) (by simp [scal, hb] <;> omega) ?_
   refine awp_R fun K hK => ?_
   simp (maxSteps := 2000000) (disch := omega) [ints, rows, scal, wr64, wr8]
   (repeat' first | apply hK | apply And.intro) <;> try first | (show okH _ _ _ = true; kernel_rfl) | omega | rfl | (simp <;> omega)
   show awp _ _ _ _
   refine awp_R fun K hK => ?_
   simp (maxSteps := 2000000) (disch := omega) [ints, rows, scal, wr64, wr8]
   (repeat' first | apply hK | apply And.intro) <;> try first | (show okH _ _ _ = true; kernel_rfl) | omega | rfl | (simp <;> omega)
   refine ⟨k + 1, by omega, by omega, ?_⟩
   refine wk_list [(0, some 0), (1, some 1)] rfl ?_ ?_ ?_ ?_
   all_goals try simp [ints, mcT, bools, hst, hrw]
  | false =>
   have hrw : rwN n (fun i => if i < k then fnM fb i else 0) = rwN n (fun i => if i < k + 1 then fnM fb i else 0) := rwN_congr fun i hi => by
    by_cases e : i = k
    ·subst e
     rw [if_neg (by omega), if_pos (by omega), fnM, if_neg (by rw [hv, hb]; simp)]
    ·by_cases e2 : i < k
     ·rw [if_pos e2, if_pos (by omega)]
     ·rw [if_neg e2, if_neg (by omega)]
   refine awp_cond (b := false) (p := 2) (by simp [scal, hb] <;> omega) ?_
   refine awp_skip ?_
   show awp _ _ _ _
   refine awp_R fun K hK => ?_
   simp (maxSteps := 2000000) (disch := omega) [ints, rows, scal, wr64, wr8]
   (repeat' first | apply hK | apply And.intro) <;> try first | (show okH _ _ _ = true; kernel_rfl) | omega | rfl | (simp <;> omega)
   refine ⟨k + 1, by omega, by omega, ?_⟩
   refine wk_list [(0, some 0), (1, some 1)] rfl ?_ ?_ ?_ ?_
   all_goals try simp [ints, bools, hrw]
 ·obtain rfl : k = n := by omega
  have hm0 : ∀ i, i < k → fnM fb i < 2 := fun i _ => by unfold fnM; split <;> omega
  have hrw : rwN k (fun i => if i < k then fnM fb i else 0) = rwN k (fnM fb) := rwN_congr fun i hi => by rw [if_pos hi]
  have hsp := split_fn (n := k) (count := 1) (M := 2) (fun _ => 0) (fnM fb) hn4 (by omega) (by omega) (fun i _ => by omega) hm0
  have hR := spF_ok (n := k) (M := 2) (c := fun _ => 0) hm0
  generalize spF k 2 (fun _ => 0) (fnM fb) = c1 at hsp hR
  generalize spN k 2 (fun _ => 0) (fnM fb) = k1 at hsp hR
  have hC1 : ClI nx fb L k c1 k1 := ClI.start hR
  rw [hrw]
  refine awp_cond (b := false) (p := 2) (by simp [scal] <;> omega) ?_
  refine awp_exit ?_
  show awp _ _ _ _
  refine awp_seqR fun K hK => ?_
  simp (maxSteps := 2000000) (disch := omega) [ints, rows, scal, wr64, wr8]
  (repeat' apply And.intro)
  all_goals (try omega)
  refine call_ruleK (caps := []) (hsp) [0] [0] 2 rfl rfl rfl rfl (by kernel_rfl) (by simp) ?_ ?_ (by simp) rfl (by simp) ⟨.inr (.inr ⟨rfl, by simp, by simp⟩), trivial⟩ (by simp) ?_
  ·simp [scal, rows, ints]
  ·simp [scal, rows, ints]
  simp (maxSteps := 2000000) (disch := omega) [ints, rows, scal, wr64, wr8]
  (repeat' first | apply hK | apply And.intro) <;> try first | (show okH _ _ _ = true; kernel_rfl) | omega | rfl | (simp <;> omega)
  refine awp_seq ?_
  refine awp_seqR fun K hK => ?_
  simp (maxSteps := 2000000) (disch := omega) [ints, rows, scal, wr64, wr8]
  (repeat' first | apply hK | apply And.intro) <;> try first | (show okH _ _ _ = true; kernel_rfl) | omega | rfl | (simp <;> omega)
  refine awp_block ?_
  refine awp_loop (fun y : (Nat → Nat) × Nat × Nat × (Nat → Nat) => mkS [(0, .pt 0 (mcT L nx fb)), (4, .own 0 k), (5, .own 1 k), (8, .t 2 (.int .i64 (y.2.1 : Nat))), (9, .t 2 (.int .i64 (y.2.2.1 : Nat)))] [(0, .row 3 1 2 (rwN k y.1)), (1, .row 3 1 2 (rwN k y.2.2.2))] 2 95 [.any]) (fun y => ClI nx fb L k y.1 y.2.1 ∧ y.2.2.1 ≤ y.2.1 ∧ (y.2.2.1 = y.2.1 → Cong nx L k y.1 L)) (fun y => k + 1 - y.2.2.1) ?_ ?_
  ·refine ⟨(c1, k1, 0, fnM fb), ⟨hC1, by simp, fun e => ?_⟩, ?_⟩
   ·have := hC1.part.lt 0 hn1
    simp only at e
    omega
   ·refine wk_list [(0, some 0), (1, some 1)] rfl ?_ ?_ ?_ ?_
    all_goals try simp [ints, mcT]
  rintro ⟨c, k1, k0, m⟩ ⟨hI, hle, hcong⟩
  simp only at hI hle hcong
  clear hC1 hR hsp
  have hkn := hI.part.le
  refine awp_seq ?_
  by_cases hlt : k0 < k1
  ·by_cases h5 : k1 ≤ 512
   ·have h5i : (k1 : Int) ≤ 512 := by omega
    refine awp_seqR fun K hK => ?_
    simp (maxSteps := 2000000) (disch := omega) [ints, rows, scal, wr64, wr8, hlt, h5, h5i]
    (repeat' first | apply hK | apply And.intro) <;> try first | (show okH _ _ _ = true; kernel_rfl) | omega | rfl | (simp <;> omega)
    refine awp_cond (b := true) (p := 2) (by simp [scal] <;> omega) ?_
    refine awp_skip ?_
    show awp _ _ _ _
    refine awp_block ?_
    refine awp_seqR fun K hK => ?_
    simp (maxSteps := 2000000) (disch := omega) [ints, rows, scal, wr64, wr8]
    (repeat' first | apply hK | apply And.intro) <;> try first | (show okH _ _ _ = true; kernel_rfl) | omega | rfl | (simp <;> omega)
    refine awp_seqR fun K hK => ?_
    simp (maxSteps := 2000000) (disch := omega) [ints, rows, scal, wr64, wr8]
    (repeat' first | apply hK | apply And.intro) <;> try first | (show okH _ _ _ = true; kernel_rfl) | omega | rfl | (simp <;> omega)
    refine awp_block ?_
    refine awp_loop (fun y : (Nat → Nat) × Nat × Nat × (Nat → Nat) => mkS [(0, .pt 0 (mcT L nx fb)), (4, .own 0 k), (5, .own 1 k), (8, .t 2 (.int .i64 (y.2.1 : Nat))), (9, .t 2 (.int .i64 (k1 : Nat))), (10, .t 2 (.int .i64 (y.2.2.1 : Nat)))] [(0, .row 3 1 2 (rwN k y.1)), (1, .row 3 1 2 (rwN k y.2.2.2))] 2 95 [.any]) (fun y => RdI nx fb L k c k1 y.1 y.2.1 y.2.2.1 ∧ y.2.2.1 ≤ L) (fun y => L - y.2.2.1) ?_ ?_
    ·refine ⟨(c, k1, 0, m), ⟨RdI.start hI, by simp⟩, ?_⟩
     refine wk_list [(0, some 0), (1, some 1)] rfl ?_ ?_ ?_ ?_
     all_goals try simp [ints, mcT]
    rintro ⟨c', k2, a, m'⟩ ⟨hR, haL⟩
    simp only at hR haL
    have hk2 := hR.cl.part.le
    have hk12 := hR.le
    refine awp_seq ?_
    by_cases ha : a < L
    ·by_cases h6 : k2 ≤ 512
     ·have h6i : (k2 : Int) ≤ 512 := by omega
      refine awp_seqR fun K hK => ?_
      simp (maxSteps := 2000000) (disch := omega) [ints, rows, scal, wr64, wr8, mcT, ha, h6, h6i]
      (repeat' first | apply hK | apply And.intro) <;> try first | (show okH _ _ _ = true; kernel_rfl) | omega | rfl | (simp <;> omega)
      refine awp_cond (b := true) (p := 2) (by simp [scal] <;> omega) ?_
      refine awp_skip ?_
      show awp _ _ _ _
      refine awp_seq ?_
      refine awp_block ?_
      refine awp_seq ?_
      refine awp_seqR fun K hK => ?_
      simp (maxSteps := 2000000) (disch := omega) [ints, rows, scal, wr64, wr8]
      (repeat' first | apply hK | apply And.intro) <;> try first | (show okH _ _ _ = true; kernel_rfl) | omega | rfl | (simp <;> omega)
      refine awp_block ?_
      refine awp_loop (fun y : Nat => mkS [(0, .pt 0 (mcT L nx fb)), (4, .own 0 k), (5, .own 1 k), (8, .t 2 (.int .i64 (k2 : Nat))), (9, .t 2 (.int .i64 (k1 : Nat))), (10, .t 2 (.int .i64 (a : Nat))), (63, .t 2 (.int .i64 k)), (64, .t 2 (.int .i64 y))] [(0, .row 3 1 2 (rwN k c')), (1, .row 3 1 2 (rwN k fun i => if i < y then c' (nxN nx L i a) else m' i))] 2 95 [.any]) (fun y => y ≤ k) (fun y => k - y) ?_ ?_
      ·refine ⟨0, by omega, ?_⟩
       refine wk_list [(0, some 0), (1, some 1)] rfl ?_ ?_ ?_ ?_
       all_goals try simp [ints, mcT]
      intro s hs
      refine awp_seqR fun K hK => ?_
      simp (maxSteps := 2000000) (disch := omega) [ints, rows, scal, wr64, wr8]
      (repeat' first | apply hK | apply And.intro) <;> try first | (show okH _ _ _ = true; kernel_rfl) | omega | rfl | (simp <;> omega)
      refine awp_seq ?_
      by_cases hsn : s < k
      ·refine awp_cond (b := true) (p := 2) (by simp [scal, hsn] <;> omega) ?_
       obtain ⟨sl, hsl⟩ : ∃ sl, sl = s * L := ⟨_, rfl⟩
       obtain ⟨ix, hix⟩ : ∃ ix, ix = s * L + a := ⟨_, rfl⟩
       have hsli : (s : Int) * (L : Int) = (sl : Nat) := by rw [hsl]; push_cast; rfl
       have hixi : (sl : Int) + (a : Int) = (ix : Nat) := by rw [hix, hsl]; push_cast; rfl
       have hixl : ix < nx.length := by rw [h.nl, hix]; exact key_lt hsn ha
       have hnl : nx.length ≤ 24576 := by rw [h.nl]; exact Nat.mul_le_mul hn4 hl2
       have hg := nI_at hixl
       have hv := h.lt a s ha hsn
       rw [← hix] at hv
       have hg2 := rwN_at (c := c') hv
       have hst := rwN_set k (fun i => if i < s then c' (nxN nx L i a) else m' i) s (c' (nx.getD ix 0))
       have hrw : rwN k (fun i => if i = s then c' (nx.getD ix 0) else if i < s then c' (nxN nx L i a) else m' i) = rwN k (fun i => if i < s + 1 then c' (nxN nx L i a) else m' i) := rwN_congr fun i hi => by
        by_cases e : i = s
        ·subst e
         rw [if_pos rfl, if_pos (by omega), hix]; rfl
        ·rw [if_neg e]
         by_cases e2 : i < s
         ·rw [if_pos e2, if_pos (by omega)]
         ·rw [if_neg e2, if_neg (by omega)]
       clear hsl hix
       generalize nx.getD ix 0 = v at hg hg2 hv hst hrw
       refine awp_skip ?_
       show awp _ _ _ _
       refine awp_seq ?_
       refine awp_block ?_
       refine awp_seqR fun K hK => ?_
       simp (maxSteps := 2000000) (disch := omega) [ints, rows, scal, wr64, wr8]
       (repeat' first | apply hK | apply And.intro) <;> try first | (show okH _ _ _ = true; kernel_rfl) | omega | rfl | (simp <;> omega)
       refine awp_RD (by kernel_rfl) (fun K hK => ?_)
       simp (maxSteps := 2000000) (disch := omega) [ints, rows, scal, wr64, wr8, mcT, hsli, hixi, hg, hg2]
       (repeat' first | apply hK | apply And.intro) <;> try first | (show chkD _ _ = true; kernel_rfl) | (show okH _ _ _ = true; kernel_rfl) | omega | rfl | (simp <;> omega)
       show awp _ _ _ _
       refine awp_R fun K hK => ?_
       simp (maxSteps := 2000000) (disch := omega) [ints, rows, scal, wr64, wr8]
       (repeat' first | apply hK | apply And.intro) <;> try first | (show okH _ _ _ = true; kernel_rfl) | omega | rfl | (simp <;> omega)
       refine ⟨s + 1, by omega, by omega, ?_⟩
       refine wk_list [(0, some 0), (1, some 1)] rfl ?_ ?_ ?_ ?_
       all_goals try simp [ints, mcT, hst, hrw]
      ·obtain rfl : s = k := by omega
       have hrw : rwN s (fun i => if i < s then c' (nxN nx L i a) else m' i) = rwN s (fun i => c' (nxN nx L i a)) := rwN_congr fun i hi => by rw [if_pos hi]
       have hml : ∀ i, i < s → c' (nxN nx L i a) < k2 := fun i hi => hR.cl.part.lt _ (h.lt a i ha hi)
       have hsp := split_fn (n := s) (count := k2) (M := k2) c' (fun i => c' (nxN nx L i a)) hn4 h6 h6 hR.cl.part.lt hml
       have hS := spF_ok (n := s) (M := k2) (c := c') hml
       generalize spF s k2 c' (fun i => c' (nxN nx L i a)) = c2 at hsp hS
       generalize spN s k2 c' (fun i => c' (nxN nx L i a)) = k3 at hsp hS
       have hR2 := hR.step ha (fun i hi => h.lt a i ha hi) hS
       rw [hrw]
       refine awp_cond (b := false) (p := 2) (by simp [scal] <;> omega) ?_
       refine awp_exit ?_
       show awp _ _ _ _
       refine awp_R fun K hK => ?_
       simp (maxSteps := 2000000) (disch := omega) [ints, rows, scal, wr64, wr8]
       (repeat' apply And.intro)
       all_goals (try omega)
       refine call_ruleK (caps := []) (hsp) [0] [0] 2 rfl rfl rfl rfl (by kernel_rfl) (by simp) ?_ ?_ (by simp) rfl (by simp) ⟨.inr (.inr ⟨rfl, by simp, by simp⟩), trivial⟩ (by simp) ?_
       ·simp [scal, rows, ints]
       ·simp [scal, rows, ints]
       simp (maxSteps := 2000000) (disch := omega) [ints, rows, scal, wr64, wr8]
       (repeat' first | apply hK | apply And.intro) <;> try first | (show okH _ _ _ = true; kernel_rfl) | omega | rfl | (simp <;> omega)
       show awp _ _ _ _
       refine awp_R fun K hK => ?_
       simp (maxSteps := 2000000) (disch := omega) [ints, rows, scal, wr64, wr8]
       (repeat' first | apply hK | apply And.intro) <;> try first | (show okH _ _ _ = true; kernel_rfl) | omega | rfl | (simp <;> omega)
       refine ⟨(c2, k3, a + 1, fun i => c' (nxN nx L i a)), ⟨hR2, by simp only; omega⟩, by simp only; omega, ?_⟩
       refine wk_list [(0, some 0), (1, some 1)] rfl ?_ ?_ ?_ ?_
       all_goals try simp [ints, mcT]
     ·have h6i : ¬ (k2 : Int) ≤ 512 := by omega
      refine awp_seqR fun K hK => ?_
      simp (maxSteps := 2000000) (disch := omega) [ints, rows, scal, wr64, wr8, mcT, ha, h6, h6i]
      (repeat' first | apply hK | apply And.intro) <;> try first | (show okH _ _ _ = true; kernel_rfl) | omega | rfl | (simp <;> omega)
      refine awp_cond (b := false) (p := 2) (by simp [scal] <;> omega) ?_
      refine awp_exit ?_
      refine ⟨(c', k2, k1, m'), ⟨hR.cl, hk12, fun e => ?_⟩, by simp only; omega, ?_⟩
      ·simp only at e
       omega
      ·refine wk_list [(0, some 0), (1, some 1)] rfl ?_ ?_ ?_ ?_
       all_goals try simp [ints, mcT]
    ·obtain rfl : a = L := by omega
     refine awp_seqR fun K hK => ?_
     simp (maxSteps := 2000000) (disch := omega) [ints, rows, scal, wr64, wr8, mcT]
     (repeat' first | apply hK | apply And.intro) <;> try first | (show okH _ _ _ = true; kernel_rfl) | omega | rfl | (simp <;> omega)
     refine awp_cond (b := false) (p := 2) (by simp [scal] <;> omega) ?_
     refine awp_exit ?_
     refine ⟨(c', k2, k1, m'), ⟨hR.cl, hk12, fun e => ?_⟩, by simp only; omega, ?_⟩
     ·exact hR.cong e h.lt
     ·refine wk_list [(0, some 0), (1, some 1)] rfl ?_ ?_ ?_ ?_
      all_goals try simp [ints, mcT]
   ·have h5i : ¬ (k1 : Int) ≤ 512 := by omega
    refine awp_seqR fun K hK => ?_
    simp (maxSteps := 2000000) (disch := omega) [ints, rows, scal, wr64, wr8, hlt, h5, h5i]
    (repeat' first | apply hK | apply And.intro) <;> try first | (show okH _ _ _ = true; kernel_rfl) | omega | rfl | (simp <;> omega)
    refine awp_cond (b := false) (p := 2) (by simp [scal] <;> omega) ?_
    refine awp_exit ?_
    show awp _ _ _ _
    refine awp_seqR fun K hK => ?_
    simp (maxSteps := 2000000) (disch := omega) [ints, rows, scal, wr64, wr8]
    (repeat' first | apply hK | apply And.intro) <;> try first | (show okH _ _ _ = true; kernel_rfl) | omega | rfl | (simp <;> omega)
    refine awp_ret ?_
    refine ⟨_, ⟨c, k1, hI, fun e => absurd e h5, rfl⟩, ?_⟩
    refine ⟨⟨.inr rfl, _, [], rfl, trivial, trivial, by simp, ?_⟩, by simp⟩
    simp
  ·obtain rfl : k0 = k1 := by omega
   refine awp_seqR fun K hK => ?_
   simp (maxSteps := 2000000) (disch := omega) [ints, rows, scal, wr64, wr8]
   (repeat' first | apply hK | apply And.intro) <;> try first | (show okH _ _ _ = true; kernel_rfl) | omega | rfl | (simp <;> omega)
   refine awp_cond (b := false) (p := 2) (by simp [scal] <;> omega) ?_
   refine awp_exit ?_
   show awp _ _ _ _
   refine awp_seqR fun K hK => ?_
   simp (maxSteps := 2000000) (disch := omega) [ints, rows, scal, wr64, wr8]
   (repeat' first | apply hK | apply And.intro) <;> try first | (show okH _ _ _ = true; kernel_rfl) | omega | rfl | (simp <;> omega)
   refine awp_ret ?_
   refine ⟨_, ⟨c, k0, hI, fun e => hcong rfl, rfl⟩, ?_⟩
   refine ⟨⟨.inr rfl, _, [], rfl, trivial, trivial, by simp, ?_⟩, by simp⟩
   simp
end Go.Proofs.YtnffigeofdagfaaDoor.M
