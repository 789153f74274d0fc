/-
  Walk in my logic: semigroupref14.Direct; its table is valid, and its projection is a division.
-/
import Derived.Test.YtgghmjnbkbiffaaZqbg
namespace Go.Proofs.Ytgghmjnbkbiffaa.M
open Go.RowKit
set_option linter.unusedVariables false
set_option linter.unusedSimpArgs false

/-- Row i of the product of two tables; m: the elements of the second. -/
def dirR (T U : Nat → Nat → Nat) (n m i : Nat) : List Int := tab (n * m) fun j => ((T (i / m) (j / m) * m + U (i % m) (j % m) : Nat) : Int)
def dirT (T U : Nat → Nat → Nat) (n m : Nat) : List (List Int) := tab (n * m) (dirR T U n m)
theorem divm (x m y : Nat) (h : y < m) : (x * m + y) / m = x ∧ (x * m + y) % m = y := by
  have h0 : 0 < m := by omega
  refine ⟨?_, ?_⟩
  · rw [Nat.mul_comm, Nat.mul_add_div h0, Nat.div_eq_of_lt h]; omega
  · rw [Nat.mul_comm, Nat.mul_add_mod, Nat.mod_eq_of_lt h]
def bigR (A B : Nat → Nat → Nat) (n m i k : Nat) : List T := (tab k fun j => ((A (i / m) (j / m) * m + B (i % m) (j % m) : Nat) : Int)).map (.int .i64)
@[simp] theorem bigR_len (A B : Nat → Nat → Nat) (n m i k : Nat) : (bigR A B n m i k).length = k := by simp [bigR]
@[simp] theorem dirR_len (A B : Nat → Nat → Nat) (n m i : Nat) : (dirR A B n m i).length = n * m := by simp [dirR]
@[simp] theorem dirT_len (A B : Nat → Nat → Nat) (n m : Nat) : (dirT A B n m).length = n * m := by simp [dirT]
theorem mul_step {x n m : Nat} (h : x < n) : x * m + m ≤ n * m := by rw [← Nat.succ_mul]; exact Nat.mul_le_mul_right _ h
set_option maxRecDepth 100000 in
set_option maxHeartbeats 8000000 in
theorem direct_fn (t u : List (List Int)) (v1 : vErr t = 0) (v2 : vErr u = 0) (hnm : t.length * u.length ≤ 1000) : FnA Try.prog 47 [.t 0 (rows t), .t 0 (rows u)] (.t 2 (rows (dirT (tabOf t) (tabOf u) t.length u.length))) := by
  have ht := TbL.of v1
  have hu := TbL.of v2
  obtain ⟨ht0, ht4⟩ := vErr_len v1
  obtain ⟨hu0, hu4⟩ := vErr_len v2
  refine fn_intro Try.func47 rfl (by simp [Try.f47]) ?_
  rw [show Try.f47.ntmps = 61 from rfl, show Try.f47.results = #[.tmp 4] from rfl]
  refine awp_seqR (fun K hK => ?_)
  simp (maxSteps := 2000000) (disch := omega) [ints, rows, scal, wr64, wr8]
  (repeat' first | refine hK _ ?_ | apply And.intro) <;> clear hK K <;> try first | (show chkD _ _ = true; kernel_rfl) | omega | rfl | (simp; done) | (simp; omega)
  refine awp_seqR (fun K hK => ?_)
  simp (maxSteps := 2000000) (disch := omega) [ints, rows, scal, wr64, wr8]
  (repeat' first | refine hK _ ?_ | apply And.intro) <;> clear hK K <;> try first | (show chkD _ _ = true; kernel_rfl) | omega | rfl | (simp; done) | (simp; omega)
  refine awp_seq ?_
  refine awp_seqR (fun K hK => ?_)
  simp (maxSteps := 2000000) (disch := omega) [ints, rows, scal, wr64, wr8]
  (repeat' first | refine hK _ ?_ | apply And.intro) <;> clear hK K <;> try first | (show chkD _ _ = true; kernel_rfl) | omega | rfl | (simp; done) | (simp; omega)
  refine awp_block ?_
  refine awp_loop (fun x : Nat => mkS [(0, .t 0 (rows t)), (1, .t 0 (rows u)), (5, .own 0 (x * u.length)), (12, .t 2 (.int .i64 t.length)), (13, .t 2 (.int .i64 x))] [(0, .row 31 1 2 ((tab (x * u.length) (dirR (tabOf t) (tabOf u) t.length u.length)).map ints))] 1 61 [.any, .any]) (fun x => x ≤ t.length) (fun x => t.length - x) ?_ ?_
  · refine ⟨0, by omega, ?_⟩
    refine wk_list [(0, none)] rfl ?_ ?_ ?_ ?_
    all_goals try simp [ints, rows]
  · intro x hx
    refine awp_seqR (fun K hK => ?_)
    simp (maxSteps := 2000000) (disch := omega) [ints, rows, scal, wr64, wr8]
    (repeat' first | refine hK _ ?_ | apply And.intro) <;> clear hK K <;> try first | (show chkD _ _ = true; kernel_rfl) | omega | rfl | (simp; done) | (simp; omega)
    refine awp_seq ?_
    by_cases hxl : x < t.length
    · have hxm := mul_step (m := u.length) hxl
      refine awp_cond (b := true) (p := 2) (by simp [scal, hxl] <;> omega) ?_
      refine awp_skip ?_
      show awp _ _ _ _
      refine awp_seq ?_
      refine awp_block ?_
      refine awp_seqR (fun K hK => ?_)
      simp (maxSteps := 2000000) (disch := omega) [ints, rows, scal, wr64, wr8]
      (repeat' first | refine hK _ ?_ | apply And.intro) <;> clear hK K <;> try first | (show chkD _ _ = true; kernel_rfl) | omega | rfl | (simp; done) | (simp; omega)
      refine awp_seqR (fun K hK => ?_)
      simp (maxSteps := 2000000) (disch := omega) [ints, rows, scal, wr64, wr8]
      (repeat' first | refine hK _ ?_ | apply And.intro) <;> clear hK K <;> try first | (show chkD _ _ = true; kernel_rfl) | omega | rfl | (simp; done) | (simp; omega)
      refine awp_block ?_
      refine awp_loop (fun y : Nat => mkS [(0, .t 0 (rows t)), (1, .t 0 (rows u)), (5, .own 0 (x * u.length + y)), (6, .t 2 (.int .i64 x)), (12, .t 2 (.int .i64 t.length)), (13, .t 2 (.int .i64 x)), (17, .t 2 (.int .i64 u.length)), (18, .t 2 (.int .i64 y))] [(0, .row 31 1 2 ((tab (x * u.length + y) (dirR (tabOf t) (tabOf u) t.length u.length)).map ints))] 1 61 [.any, .any]) (fun y => y ≤ u.length) (fun y => u.length - y) ?_ ?_
      · refine ⟨0, by omega, ?_⟩
        refine wk_list [(0, some 0)] rfl ?_ ?_ ?_ ?_
        all_goals try simp [ints, rows]
      · intro y hy
        refine awp_seqR (fun K hK => ?_)
        simp (maxSteps := 2000000) (disch := omega) [ints, rows, scal, wr64, wr8]
        (repeat' first | refine hK _ ?_ | apply And.intro) <;> clear hK K <;> try first | (show chkD _ _ = true; kernel_rfl) | omega | rfl | (simp; done) | (simp; omega)
        refine awp_seq ?_
        by_cases hyl : y < u.length
        · obtain ⟨hd1, hd2⟩ := divm x u.length y hyl
          refine awp_cond (b := true) (p := 2) (by simp [scal, hyl] <;> omega) ?_
          refine awp_skip ?_
          show awp _ _ _ _
          refine awp_seq ?_
          refine awp_block ?_
          refine awp_seqR (fun K hK => ?_)
          simp (maxSteps := 2000000) (disch := omega) [ints, rows, scal, wr64, wr8]
          (repeat' first | refine hK _ ?_ | apply And.intro) <;> clear hK K <;> try first | (show chkD _ _ = true; kernel_rfl) | omega | rfl | (simp; done) | (simp; omega)
          refine awp_seqR (fun K hK => ?_)
          simp (maxSteps := 2000000) (disch := omega) [ints, rows, scal, wr64, wr8]
          (repeat' first | refine hK _ ?_ | apply And.intro) <;> clear hK K <;> try first | (show chkD _ _ = true; kernel_rfl) | omega | rfl | (simp; done) | (simp; omega)
          refine awp_seq ?_
          refine awp_seqR (fun K hK => ?_)
          simp (maxSteps := 2000000) (disch := omega) [ints, rows, scal, wr64, wr8]
          (repeat' first | refine hK _ ?_ | apply And.intro) <;> clear hK K <;> try first | (show chkD _ _ = true; kernel_rfl) | omega | rfl | (simp; done) | (simp; omega)
          refine awp_block ?_
          refine awp_loop (fun v : Nat => mkS [(0, .t 0 (rows t)), (1, .t 0 (rows u)), (5, .own 0 (x * u.length + y)), (6, .t 2 (.int .i64 x)), (7, .t 2 (.int .i64 y)), (8, .own 1 (v * u.length)), (12, .t 2 (.int .i64 t.length)), (13, .t 2 (.int .i64 x)), (17, .t 2 (.int .i64 u.length)), (18, .t 2 (.int .i64 y)), (22, .t 2 (.int .i64 t.length)), (23, .t 2 (.int .i64 v))] [(0, .row 31 1 2 ((tab (x * u.length + y) (dirR (tabOf t) (tabOf u) t.length u.length)).map ints)), (1, .row 3 1 2 (bigR (tabOf t) (tabOf u) t.length u.length (x * u.length + y) (v * u.length)))] 2 61 [.any, .any]) (fun v => v ≤ t.length) (fun v => t.length - v) ?_ ?_
          · refine ⟨0, by omega, ?_⟩
            refine wk_list [(0, some 0), (1, none)] rfl ?_ ?_ ?_ ?_
            all_goals try simp [ints, rows, bigR]
          · intro v hv
            refine awp_seqR (fun K hK => ?_)
            simp (maxSteps := 2000000) (disch := omega) [ints, rows, scal, wr64, wr8]
            (repeat' first | refine hK _ ?_ | apply And.intro) <;> clear hK K <;> try first | (show chkD _ _ = true; kernel_rfl) | omega | rfl | (simp; done) | (simp; omega)
            refine awp_seq ?_
            by_cases hvl : v < t.length
            · have hvm := mul_step (m := u.length) hvl
              refine awp_cond (b := true) (p := 2) (by simp [scal, hvl] <;> omega) ?_
              refine awp_skip ?_
              show awp _ _ _ _
              refine awp_seq ?_
              refine awp_block ?_
              refine awp_seqR (fun K hK => ?_)
              simp (maxSteps := 2000000) (disch := omega) [ints, rows, scal, wr64, wr8]
              (repeat' first | refine hK _ ?_ | apply And.intro) <;> clear hK K <;> try first | (show chkD _ _ = true; kernel_rfl) | omega | rfl | (simp; done) | (simp; omega)
              refine awp_seqR (fun K hK => ?_)
              simp (maxSteps := 2000000) (disch := omega) [ints, rows, scal, wr64, wr8]
              (repeat' first | refine hK _ ?_ | apply And.intro) <;> clear hK K <;> try first | (show chkD _ _ = true; kernel_rfl) | omega | rfl | (simp; done) | (simp; omega)
              refine awp_block ?_
              refine awp_loop (fun w : Nat => mkS [(0, .t 0 (rows t)), (1, .t 0 (rows u)), (5, .own 0 (x * u.length + y)), (6, .t 2 (.int .i64 x)), (7, .t 2 (.int .i64 y)), (8, .own 1 (v * u.length + w)), (9, .t 2 (.int .i64 v)), (12, .t 2 (.int .i64 t.length)), (13, .t 2 (.int .i64 x)), (17, .t 2 (.int .i64 u.length)), (18, .t 2 (.int .i64 y)), (22, .t 2 (.int .i64 t.length)), (23, .t 2 (.int .i64 v)), (27, .t 2 (.int .i64 u.length)), (28, .t 2 (.int .i64 w))] [(0, .row 31 1 2 ((tab (x * u.length + y) (dirR (tabOf t) (tabOf u) t.length u.length)).map ints)), (1, .row 3 1 2 (bigR (tabOf t) (tabOf u) t.length u.length (x * u.length + y) (v * u.length + w)))] 2 61 [.any, .any]) (fun w => w ≤ u.length) (fun w => u.length - w) ?_ ?_
              · refine ⟨0, by omega, ?_⟩
                refine wk_list [(0, some 0), (1, some 1)] rfl ?_ ?_ ?_ ?_
                all_goals try simp [ints, rows, bigR]
              · intro w hw
                refine awp_seqR (fun K hK => ?_)
                simp (maxSteps := 2000000) (disch := omega) [ints, rows, scal, wr64, wr8]
                (repeat' first | refine hK _ ?_ | apply And.intro) <;> clear hK K <;> try first | (show chkD _ _ = true; kernel_rfl) | omega | rfl | (simp; done) | (simp; omega)
                refine awp_seq ?_
                by_cases hwl : w < u.length
                · have h1 : v < t[x].length := by rw [ht.row]; exact hvl
                  have h2 : w < u[y].length := by rw [hu.row]; exact hwl
                  have e1 := ht.val x v hxl h1
                  have e2 := hu.val y w hyl h2
                  have l1 := ht.lt x v hxl hvl
                  have l2 := hu.lt y w hyl hwl
                  obtain ⟨hd3, hd4⟩ := divm v u.length w hwl
                  have hmm := mul_step (m := u.length) l1
                  have hbig : bigR (tabOf t) (tabOf u) t.length u.length (x * u.length + y) (v * u.length + w) ++ [.int .i64 ((tabOf t x v : Int) * (u.length : Int) + (tabOf u y w : Int))] = bigR (tabOf t) (tabOf u) t.length u.length (x * u.length + y) (v * u.length + (w + 1)) := by
                    unfold bigR
                    rw [← Nat.add_assoc, tab_succ, hd3, hd4, hd1, hd2]
                    simp
                  refine awp_cond (b := true) (p := 2) (by simp [scal, hwl] <;> omega) ?_
                  refine awp_skip ?_
                  show awp _ _ _ _
                  refine awp_seq ?_
                  refine awp_block ?_
                  refine awp_seqR (fun K hK => ?_)
                  simp (maxSteps := 2000000) (disch := omega) [ints, rows, scal, wr64, wr8]
                  (repeat' first | refine hK _ ?_ | apply And.intro) <;> clear hK K <;> try first | (show chkD _ _ = true; kernel_rfl) | omega | rfl | (simp; done) | (simp; omega)
                  refine awp_RD (by kernel_rfl) (fun K hK => ?_)
                  simp (maxSteps := 2000000) (disch := omega) [ints, rows, scal, wr64, wr8, hxl, h1, e1, h2, hyl, e2]
                  (repeat' first | refine hK _ ?_ | apply And.intro) <;> clear hK K <;> try first | (show chkD _ _ = true; kernel_rfl) | omega | rfl | (simp; done) | (simp; omega)
                  show awp _ _ _ _
                  refine awp_R (fun K hK => ?_)
                  simp (maxSteps := 2000000) (disch := omega) [ints, rows, scal, wr64, wr8]
                  (repeat' first | refine hK _ ?_ | apply And.intro) <;> clear hK K <;> try first | (show chkD _ _ = true; kernel_rfl) | omega | rfl | (simp; done) | (simp; omega)
                  refine ⟨w + 1, by omega, by omega, ?_⟩
                  refine wk_list [(0, some 0), (1, some 1)] rfl ?_ ?_ ?_ ?_
                  all_goals try simp [ints, rows]
                  · omega
                  · exact hbig
                · obtain rfl : w = u.length := by omega
                  refine awp_cond (b := false) (p := 2) (by simp [scal] <;> omega) ?_
                  refine awp_exit ?_
                  show awp _ _ _ _
                  refine awp_R (fun K hK => ?_)
                  simp (maxSteps := 2000000) (disch := omega) [ints, rows, scal, wr64, wr8]
                  (repeat' first | refine hK _ ?_ | apply And.intro) <;> clear hK K <;> try first | (show chkD _ _ = true; kernel_rfl) | omega | rfl | (simp; done) | (simp; omega)
                  refine ⟨v + 1, by omega, by omega, ?_⟩
                  refine wk_list [(0, some 0), (1, some 1)] rfl ?_ ?_ ?_ ?_
                  all_goals try simp [ints, rows, Nat.succ_mul]
            · obtain rfl : v = t.length := by omega
              have hbr : bigR (tabOf t) (tabOf u) t.length u.length (x * u.length + y) (t.length * u.length) = (dirR (tabOf t) (tabOf u) t.length u.length (x * u.length + y)).map (.int .i64) := rfl
              refine awp_cond (b := false) (p := 2) (by simp [scal] <;> omega) ?_
              refine awp_exit ?_
              show awp _ _ _ _
              refine awp_R (fun K hK => ?_)
              simp (maxSteps := 2000000) (disch := omega) [ints, rows, scal, wr64, wr8, hbr]
              (repeat' first | refine hK _ ?_ | apply And.intro) <;> clear hK K <;> try first | (show chkD _ _ = true; kernel_rfl) | omega | rfl | (simp; done) | (simp; omega)
              show awp _ _ _ _
              refine awp_R (fun K hK => ?_)
              simp (maxSteps := 2000000) (disch := omega) [ints, rows, scal, wr64, wr8]
              (repeat' first | refine hK _ ?_ | apply And.intro) <;> clear hK K <;> try first | (show chkD _ _ = true; kernel_rfl) | omega | rfl | (simp; done) | (simp; omega)
              refine ⟨y + 1, by omega, by omega, ?_⟩
              refine wk_list [(0, some 0)] rfl ?_ ?_ ?_ ?_
              all_goals try simp [ints, rows]
              · omega
              · rw [← Nat.add_assoc, tab_succ]
                simp [ints]
        · obtain rfl : y = u.length := by omega
          refine awp_cond (b := false) (p := 2) (by simp [scal] <;> omega) ?_
          refine awp_exit ?_
          show awp _ _ _ _
          refine awp_R (fun K hK => ?_)
          simp (maxSteps := 2000000) (disch := omega) [ints, rows, scal, wr64, wr8]
          (repeat' first | refine hK _ ?_ | apply And.intro) <;> clear hK K <;> try first | (show chkD _ _ = true; kernel_rfl) | omega | rfl | (simp; done) | (simp; omega)
          refine ⟨x + 1, by omega, by omega, ?_⟩
          refine wk_list [(0, some 0)] rfl ?_ ?_ ?_ ?_
          all_goals try simp [ints, rows, Nat.succ_mul]
    · obtain rfl : x = t.length := by omega
      refine awp_cond (b := false) (p := 2) (by simp [scal] <;> omega) ?_
      refine awp_exit ?_
      show awp _ _ _ _
      refine awp_seqR (fun K hK => ?_)
      simp (maxSteps := 2000000) (disch := omega) [ints, rows, scal, wr64, wr8]
      (repeat' first | refine hK _ ?_ | apply And.intro) <;> clear hK K <;> try first | (show chkD _ _ = true; kernel_rfl) | omega | rfl | (simp; done) | (simp; omega)
      refine awp_ret ?_
      refine ⟨⟨.inr rfl, _, [], rfl, trivial, trivial, by simp [rows, dirT], ?_⟩, by simp [rows, dirT]⟩
      simp [rows, dirT]
theorem div_in {n m i : Nat} (h : i < n * m) : i / m < n ∧ i % m < m := by
  have h0 : 0 < m := by
    rcases Nat.eq_zero_or_pos m with rfl | h0
    · simp at h
    · exact h0
  exact ⟨(Nat.div_lt_iff_lt_mul h0).2 h, Nat.mod_lt _ h0⟩
theorem dir_at {A B : Nat → Nat → Nat} {n m i j : Nat} (hi : i < n * m) (hj : j < n * m) : nthx (nthx (dirT A B n m) i) j = ((A (i / m) (j / m) * m + B (i % m) (j % m) : Nat) : Int) := by
  have e1 : nthx (dirT A B n m) i = dirR A B n m i := by simp [nthx, dirT, tab, hi, List.getD_eq_getElem?_getD]
  rw [e1]
  simp [nthx, dirR, tab, hj, List.getD_eq_getElem?_getD]
theorem dir_tab {A B : Nat → Nat → Nat} {n m i j : Nat} (hi : i < n * m) (hj : j < n * m) : tabOf (dirT A B n m) i j = A (i / m) (j / m) * m + B (i % m) (j % m) := by
  unfold tabOf
  rw [dir_at hi hj]
  omega
theorem dir_lt {A B : Nat → Nat → Nat} {n m : Nat} (hA : ∀ r c, r < n → c < n → A r c < n) (hB : ∀ r c, r < m → c < m → B r c < m) {i j : Nat} (hi : i < n * m) (hj : j < n * m) : A (i / m) (j / m) * m + B (i % m) (j % m) < n * m := by
  obtain ⟨h1, h2⟩ := div_in hi
  obtain ⟨h3, h4⟩ := div_in hj
  have := mul_step (m := m) (hA _ _ h1 h3)
  have := hB _ _ h2 h4
  omega
theorem dir_valid {t u : List (List Int)} (v1 : vErr t = 0) (v2 : vErr u = 0) (hnm : t.length * u.length ≤ 400) : vErr (dirT (tabOf t) (tabOf u) t.length u.length) = 0 := by
  have ht := TbL.of v1
  have hu := TbL.of v2
  obtain ⟨ht0, ht4⟩ := vErr_len v1
  obtain ⟨hu0, hu4⟩ := vErr_len v2
  have h0 : 0 < t.length * u.length := Nat.mul_pos ht0 hu0
  refine vErr_ok (shape_good (by simp only [lnx, dirT_len]; omega) (by simp only [lnx, dirT_len]; exact h0) (fun r hr => ?_)) ?_
  · simp only [lnx, dirT_len] at hr
    have hrl : (nthx (dirT (tabOf t) (tabOf u) t.length u.length) r).length = t.length * u.length := by simp [nthx, dirT, tab, hr, List.getD_eq_getElem?_getD]
    refine ⟨by simp only [lnx, dirT_len]; exact hrl, fun i hi => ?_⟩
    simp only [lnx, hrl] at hi
    rw [dir_at hr hi]
    simp only [lnx, dirT_len]
    have := dir_lt ht.lt hu.lt hr hi
    omega
  · intro a b c ha hb hc
    simp only [lnx, dirT_len] at ha hb hc
    have hab := dir_lt ht.lt hu.lt ha hb
    have hbc := dir_lt ht.lt hu.lt hb hc
    obtain ⟨a1, a2⟩ := div_in ha
    obtain ⟨b1, b2⟩ := div_in hb
    obtain ⟨c1, c2⟩ := div_in hc
    obtain ⟨p1, p2⟩ := divm (tabOf t (a / u.length) (b / u.length)) u.length (tabOf u (a % u.length) (b % u.length)) (hu.lt _ _ a2 b2)
    obtain ⟨q1, q2⟩ := divm (tabOf t (b / u.length) (c / u.length)) u.length (tabOf u (b % u.length) (c % u.length)) (hu.lt _ _ b2 c2)
    rw [dir_tab ha hb, dir_tab hb hc, dir_tab hab hc, dir_tab ha hbc, p1, p2, q1, q2, vErr_asc v1 _ _ _ a1 b1 c1, vErr_asc v2 _ _ _ a2 b2 c2]
/-- A table divides itself, by its own generators. -/
theorem self_ok {t : List (List Int)} {gens : List Int} (v1 : vErr t = 0) (vg : gensB t gens = true) : dvErr t gens t gens = 0 := by
  refine dvErr_0 v1 vg v1 rfl (gensB_inv vg).1 (fun y x x' h h' => ?_)
  have key : ∀ y x, DvR (tabOf t) (tabOf t) (gpairs gens gens (lnx gens)) y x → x = y := fun y x h => by
    induction h with
    | base hp =>
      obtain ⟨i, _, rfl⟩ := gpairs_mem.1 hp
      rfl
    | step _ hp ih =>
      obtain ⟨i, _, rfl⟩ := gpairs_mem.1 hp
      rw [ih]
  rw [key y x h, key y x' h']
/-- A table divides its product with another one. -/
theorem proj_ok {t u : List (List Int)} {gens f : List Int} (v1 : vErr t = 0) (vg : gensB t gens = true) (v2 : vErr u = 0) (hnm : t.length * u.length ≤ 400) (hl : f.length = gens.length) (hf : ∀ i, i < gens.length → ∃ v : Nat, v < u.length ∧ nthx f i = ((nat_ gens i * u.length + v : Nat) : Int)) : dvErr t gens (dirT (tabOf t) (tabOf u) t.length u.length) f = 0 := by
  have ht := TbL.of v1
  have hu := TbL.of v2
  have hfn : ∀ i, i < gens.length → nat_ f i < t.length * u.length ∧ nat_ f i / u.length = nat_ gens i := fun i hi => by
    obtain ⟨v, hv, e⟩ := hf i hi
    obtain ⟨d1, d2⟩ := divm (nat_ gens i) u.length v hv
    have e2 : nat_ f i = nat_ gens i * u.length + v := by
      have : nat_ f i = (nthx f i).toNat := rfl
      rw [this, e]
      exact Int.toNat_natCast _
    have := mul_step (m := u.length) (gens_get vg hi).2
    rw [e2]
    exact ⟨by omega, d1⟩
  refine dvErr_0 v1 vg (dir_valid v1 v2 hnm) hl (inB_t fun i hi => ?_) (fun y x x' h h' => ?_)
  · obtain ⟨v, hv, e⟩ := hf i (by simp only [lnx] at hi; omega)
    have := mul_step (m := u.length) (gens_get vg (i := i) (by simp only [lnx] at hi; omega)).2
    rw [e]
    simp only [lnx, dirT_len]
    omega
  · have key : ∀ y x, DvR (tabOf t) (tabOf (dirT (tabOf t) (tabOf u) t.length u.length)) (gpairs gens f (lnx gens)) y x → y < t.length * u.length ∧ x = y / u.length := fun y x h => by
      induction h with
      | base hp =>
        obtain ⟨i, hi, rfl⟩ := gpairs_mem.1 hp
        obtain ⟨h1, h2⟩ := hfn i hi
        exact ⟨h1, h2.symm⟩
      | @step y x p _ hp ih =>
        obtain ⟨i, hi, rfl⟩ := gpairs_mem.1 hp
        obtain ⟨h1, h2⟩ := hfn i hi
        obtain ⟨h3, h4⟩ := ih
        obtain ⟨a1, a2⟩ := div_in h3
        obtain ⟨b1, b2⟩ := div_in h1
        have hlt := dir_lt ht.lt hu.lt h3 h1
        obtain ⟨d1, -⟩ := divm (tabOf t (y / u.length) (nat_ f i / u.length)) u.length (tabOf u (y % u.length) (nat_ f i % u.length)) (hu.lt _ _ a2 b2)
        rw [dir_tab h3 h1]
        exact ⟨hlt, by rw [d1, h2, h4]⟩
    rw [(key y x h).2, (key y x' h').2]
end Go.Proofs.Ytgghmjnbkbiffaa.M
