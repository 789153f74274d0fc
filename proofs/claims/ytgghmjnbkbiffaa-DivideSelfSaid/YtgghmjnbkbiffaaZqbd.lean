/-
  Walks in my logic: divide.newDivision, put, back, power.
  Walk in my logic: divide.division.add.
-/
import Derived.Test.YtgghmjnbkbiffaaZqam
import Derived.Test.YtgghmjnbkbiffaaZqbb
import Derived.Test.YtgghmjnbkbiffaaZqbc
namespace Go.Proofs.Ytgghmjnbkbiffaa.M
open Go.RowKit
set_option linter.unusedVariables false
set_option linter.unusedSimpArgs false

def prT : List (Nat × Nat) → List T
  | [] => []
  | p :: r => .int .i64 (p.1 : Int) :: .int .i64 (p.2 : Int) :: prT r
@[simp] theorem prT_len : ∀ l : List (Nat × Nat), (prT l).length = l.length * 2
  | [] => rfl
  | p :: r => by simp [prT, prT_len r]; omega
theorem prT_app : ∀ (l r : List (Nat × Nat)), prT (l ++ r) = prT l ++ prT r
  | [], r => rfl
  | p :: l, r => by simp [prT, prT_app l r]
theorem prT_at : ∀ (l : List (Nat × Nat)) (i : Nat) (p : Nat × Nat), l[i]? = some p → (prT l)[i * 2]? = some (.int .i64 (p.1 : Int)) ∧ (prT l)[i * 2 + 1]? = some (.int .i64 (p.2 : Int))
  | [], i, p, h => by simp at h
  | q :: l, 0, p, h => by simp at h; subst h; simp [prT]
  | q :: l, i + 1, p, h => by
    have := prT_at l i p (by simpa using h)
    rw [show (i + 1) * 2 = i * 2 + 2 by omega]
    simpa [prT] using this
theorem prT_take : ∀ (l : List (Nat × Nat)) (i : Nat), (prT l).take (i * 2) = prT (l.take i)
  | [], i => by simp [prT]
  | q :: l, 0 => by simp [prT]
  | q :: l, i + 1 => by rw [show (i + 1) * 2 = i * 2 + 2 by omega]; simp [prT, prT_take l i]
@[simp] theorem lvs_prT (p : Nat) : ∀ l : List (Nat × Nat), (prT l).all scal = true
  | [] => rfl
  | q :: l => by simp [prT, scal, lvs_prT p l]
def nsT (l : List Nat) : List T := l.map fun (y : Nat) => .int .i64 (y : Int)
@[simp] theorem nsT_len (l : List Nat) : (nsT l).length = l.length := by simp [nsT]
theorem nsT_app (l r : List Nat) : nsT (l ++ r) = nsT l ++ nsT r := by simp [nsT]
theorem nsT_take (l : List Nat) (k : Nat) : (nsT l).take k = nsT (l.take k) := by simp [nsT, List.map_take]
theorem nsT_get {l : List Nat} {k : Nat} (h : k < l.length) : (nsT l)[k]? = some (.int .i64 (l[k] : Int)) := by simp [nsT, h]
/-- The variable of a division: the table of values has m cells, k elements have been found, there are c cells of steps. -/
def dvB (t u : List (List Int)) (m k c : Nat) : AObj := .box 94 [.t 1 (rows t), .t 1 (rows u), .own 1 m, .own 2 k, .own 3 c]
def ofO (p m : Nat) (F : Nat → Int) : AObj := .row 3 1 p (tab m fun i => .int .i64 (F i))
def paO (p : Nat) (l : List Nat) : AObj := .row 3 1 p (nsT l)
def stO (p : Nat) (S : List (Nat × Nat)) : AObj := .row 97 2 p (prT S)
def dvH (p : Nat) (t u : List (List Int)) (m : Nat) (F : Nat → Int) (l : List Nat) (S : List (Nat × Nat)) : List AObj := [dvB t u m l.length (S.length * 2), ofO p m F, paO p l, stO p S]

/-- The least of base to the power e and lim. -/
def powL (b e lim : Nat) : Nat := min (b ^ e) lim
set_option maxRecDepth 100000 in
set_option maxHeartbeats 4000000 in
theorem newDivision_fn (t u : List (List Int)) (hu : u.length ≤ 100000) : FnS Try.prog 75 [.t 1 (rows t), .t 1 (rows u)] [] (.ptr 0 0 5) (dvH 2 t u u.length (fun _ => -1) [] []) := by
  refine fn_intro Try.func75 rfl (by simp [Try.f75]) ?_
  rw [show Try.f75.ntmps = 30 from rfl, show Try.f75.results = #[.tmp 4] from rfl]
  refine awp_seqR (fun K hK => ?_)
  simp (maxSteps := 2000000) (disch := omega) [ints, rows, scal, wr64, wr8]
  (repeat' first | refine hK _ ?_ | apply And.intro) <;> clear hK K <;> try first | (show chkD _ _ = true; kernel_rfl) | omega | rfl | (simp; done) | (simp; omega)
  refine awp_seqR (fun K hK => ?_)
  simp (maxSteps := 2000000) (disch := omega) [ints, rows, scal, wr64, wr8]
  (repeat' first | refine hK _ ?_ | apply And.intro) <;> clear hK K <;> try first | (show chkD _ _ = true; kernel_rfl) | omega | rfl | (simp; done) | (simp; omega)
  refine awp_seq ?_
  refine awp_seqR (fun K hK => ?_)
  simp (maxSteps := 2000000) (disch := omega) [ints, rows, scal, wr64, wr8]
  (repeat' first | refine hK _ ?_ | apply And.intro) <;> clear hK K <;> try first | (show chkD _ _ = true; kernel_rfl) | omega | rfl | (simp; done) | (simp; omega)
  refine awp_block ?_
  refine awp_loop (fun k : Nat => mkS [(5, .ptr 0 0 5), (18, .t 2 (.int .i64 u.length)), (19, .t 2 (.int .i64 k))] [(0, dvB t u u.length 0 0), (1, ofO 2 u.length fun i => if i < k then -1 else 0), (2, paO 2 []), (3, stO 2 [])] 4 30 [.any, .any]) (fun k => k ≤ u.length) (fun k => u.length - k) ?_ ?_
  · refine ⟨0, by omega, ?_⟩
    refine wk_list [(0, some 7000000), (1, some 5000000), (2, none), (3, none)] rfl ?_ ?_ ?_ ?_
    all_goals try simp [ints, rep_tab, dvB, ofO, paO, stO, nsT, prT, rows]
    all_goals trace_state
  · intro k hk
    refine awp_seqR (fun K hK => ?_)
    simp (maxSteps := 2000000) (disch := omega) [ints, rows, scal, wr64, wr8]
    (repeat' first | refine hK _ ?_ | apply And.intro) <;> clear hK K <;> try first | (show chkD _ _ = true; kernel_rfl) | omega | rfl | (simp; done) | (simp; omega)
    refine awp_seq ?_
    by_cases hc : k < u.length
    · refine awp_cond (b := true) (p := 2) (by simp [scal, hc] <;> omega) ?_
      refine awp_skip ?_
      show awp _ _ _ _
      refine awp_seq ?_
      refine awp_block ?_
      refine awp_seqR (fun K hK => ?_)
      simp (maxSteps := 2000000) (disch := omega) [ints, rows, scal, wr64, wr8]
      (repeat' first | refine hK _ ?_ | apply And.intro) <;> clear hK K <;> try first | (show chkD _ _ = true; kernel_rfl) | omega | rfl | (simp; done) | (simp; omega)
      refine awp_R (fun K hK => ?_)
      simp (maxSteps := 2000000) (disch := omega) [ints, rows, scal, wr64, wr8, dvB, ofO]
      (repeat' first | refine hK _ ?_ | apply And.intro) <;> clear hK K <;> try first | (show chkD _ _ = true; kernel_rfl) | omega | rfl | (simp; done) | (simp; omega)
      show awp _ _ _ _
      refine awp_R (fun K hK => ?_)
      simp (maxSteps := 2000000) (disch := omega) [ints, rows, scal, wr64, wr8]
      (repeat' first | refine hK _ ?_ | apply And.intro) <;> clear hK K <;> try first | (show chkD _ _ = true; kernel_rfl) | omega | rfl | (simp; done) | (simp; omega)
      refine ⟨k + 1, by omega, by omega, ?_⟩
      refine wk_list [(0, some 0), (1, some 1), (2, some 2), (3, some 3)] rfl ?_ ?_ ?_ ?_
      all_goals try simp [ints, dvB, ofO, paO, stO, tab_set, rows]
      exact tab_congr fun i hi => by
        by_cases e : i = k
        · subst e; rw [if_pos rfl, if_pos (by omega)]
        · rw [if_neg e]; by_cases h2 : i < k
          · rw [if_pos h2, if_pos (by omega)]
          · rw [if_neg h2, if_neg (by omega)]
    · refine awp_cond (b := false) (p := 2) (by simp [scal, hc] <;> omega) ?_
      refine awp_exit ?_
      show awp _ _ _ _
      refine awp_seqR (fun K hK => ?_)
      simp (maxSteps := 2000000) (disch := omega) [ints, rows, scal, wr64, wr8]
      (repeat' first | refine hK _ ?_ | apply And.intro) <;> clear hK K <;> try first | (show chkD _ _ = true; kernel_rfl) | omega | rfl | (simp; done) | (simp; omega)
      refine awp_ret ?_
      refine ⟨⟨.inr rfl, _, [(0, some 0), (1, some 1), (2, some 2), (3, some 3)], (by first | rfl | (simp [ints, rows, scal, tpO, dvB, ofO, paO, stO, dvH, nsT, prT]; rfl)), ?_, ?_, ?_, ?_⟩, ?_⟩
      all_goals try simp [ints, rows, scal, tpO, dvB, ofO, paO, stO, dvH, nsT, prT]
      exact tab_congr fun i hi => by rw [if_pos (by omega)]

set_option maxRecDepth 100000 in
set_option maxHeartbeats 4000000 in
theorem put_fn (t u : List (List Int)) (m : Nat) (F : Nat → Int) (l : List Nat) (S : List (Nat × Nat)) (x y : Nat) (hm : m ≤ 100000) (hy : y < m) (hl : l.length ≤ 100000) :
    FnK Try.prog 104 [.ptr 0 0 5, .t 2 (.int .i64 x), .t 2 (.int .i64 y)] (dvH 1 t u m F l S) (.t 2 (.bool (updP F y x y == (x : Int)))) (dvH 1 t u m (updP F y x) (addP F l y) S) [3] := by
  refine fn_introK 3 (S.length * 2) rfl rfl (by simp) (by simp) Try.func104 rfl (by simp [Try.f104]) ?_
  rw [show Try.f104.ntmps = 41 from rfl, show Try.f104.results = #[.tmp 6] from rfl]
  refine awp_seqR (fun K hK => ?_)
  simp (maxSteps := 2000000) (disch := omega) [ints, rows, scal, wr64, wr8]
  (repeat' first | refine hK _ ?_ | apply And.intro) <;> clear hK K <;> try first | (show chkD _ _ = true; kernel_rfl) | omega | rfl | (simp; done) | (simp; omega)
  refine awp_seq ?_
  refine awp_seqR (fun K hK => ?_)
  simp (maxSteps := 2000000) (disch := omega) [ints, rows, scal, wr64, wr8, dvH, dvB, ofO, paO, stO]
  (repeat' first | refine hK _ ?_ | apply And.intro) <;> clear hK K <;> try first | (show chkD _ _ = true; kernel_rfl) | omega | rfl | (simp; done) | (simp; omega)
  by_cases hc : F y < 0
  · have h1 : updP F y x = Go.Proofs.Ytgghmjnbkbiffaa.upd F y x := by unfold updP; rw [if_pos hc]
    have h2 : addP F l y = l ++ [y] := by unfold addP; rw [if_pos hc]
    refine awp_cond (b := true) (p := 2) (by simp [scal, hc] <;> omega) ?_
    refine awp_seqR (fun K hK => ?_)
    simp (maxSteps := 2000000) (disch := omega) [ints, rows, scal, wr64, wr8, dvH, dvB, ofO, paO, stO]
    (repeat' first | refine hK _ ?_ | apply And.intro) <;> clear hK K <;> try first | (show chkD _ _ = true; kernel_rfl) | omega | rfl | (simp; done) | (simp; omega)
    refine awp_R (fun K hK => ?_)
    simp (maxSteps := 2000000) (disch := omega) [ints, rows, scal, wr64, wr8, dvH, dvB, ofO, paO, stO]
    (repeat' first | refine hK _ ?_ | apply And.intro) <;> clear hK K <;> try first | (show chkD _ _ = true; kernel_rfl) | omega | rfl | (simp; done) | (simp; omega)
    show awp _ _ _ _
    refine awp_seqR (fun K hK => ?_)
    simp (maxSteps := 2000000) (disch := omega) [ints, rows, scal, wr64, wr8, dvH, dvB, ofO, paO, stO, tab_set]
    (repeat' first | refine hK _ ?_ | apply And.intro) <;> clear hK K <;> try first | (show chkD _ _ = true; kernel_rfl) | omega | rfl | (simp; done) | (simp; omega)
    refine awp_ret ?_
    refine ⟨⟨.inr rfl, _, [(0, some 0), (1, some 1), (2, some 2), (3, some 3)], (by first | rfl | (simp [ints, rows, scal, tpO, dvB, ofO, paO, stO, dvH, nsT, h1, h2, Go.Proofs.Ytgghmjnbkbiffaa.upd, tab_set]; rfl)), ?_, ?_, ?_, ?_⟩, ?_⟩
    all_goals try simp [ints, rows, scal, tpO, dvB, ofO, paO, stO, dvH, nsT, h1, h2, Go.Proofs.Ytgghmjnbkbiffaa.upd, tab_set]
    exact tab_congr fun i hi => by by_cases e : i = y <;> simp [e]
  · have h1 : updP F y x = F := by unfold updP; rw [if_neg hc]
    have h2 : addP F l y = l := by unfold addP; rw [if_neg hc]
    refine awp_cond (b := false) (p := 2) (by simp [scal, hc] <;> omega) ?_
    refine awp_skip ?_
    show awp _ _ _ _
    refine awp_seqR (fun K hK => ?_)
    simp (maxSteps := 2000000) (disch := omega) [ints, rows, scal, wr64, wr8, dvH, dvB, ofO, paO, stO]
    (repeat' first | refine hK _ ?_ | apply And.intro) <;> clear hK K <;> try first | (show chkD _ _ = true; kernel_rfl) | omega | rfl | (simp; done) | (simp; omega)
    refine awp_ret ?_
    refine ⟨⟨.inr rfl, _, [(0, some 0), (1, some 1), (2, some 2), (3, some 3)], (by first | rfl | (simp [ints, rows, scal, tpO, dvB, ofO, paO, stO, dvH, nsT, h1, h2]; rfl)), ?_, ?_, ?_, ?_⟩, ?_⟩
    all_goals try simp [ints, rows, scal, tpO, dvB, ofO, paO, stO, dvH, nsT, h1, h2]

set_option maxRecDepth 100000 in
set_option maxHeartbeats 4000000 in
theorem power_fn (b e lim : Nat) (hb0 : 1 ≤ b) (hb : b ≤ 100000) (hl : lim ≤ 2000000) (he : e ≤ 100000) : FnA Try.prog 80 [.t 2 (.int .i64 b), .t 2 (.int .i64 e), .t 2 (.int .i64 lim)] (.t 2 (.int .i64 (powL b e lim : Nat))) := by
  refine fn_intro Try.func80 rfl (by simp [Try.f80]) ?_
  rw [show Try.f80.ntmps = 27 from rfl, show Try.f80.results = #[.tmp 6] from rfl]
  refine awp_seqR (fun K hK => ?_)
  simp (maxSteps := 2000000) (disch := omega) [ints, rows, scal, wr64, wr8]
  (repeat' first | refine hK _ ?_ | apply And.intro) <;> clear hK K <;> try first | (show chkD _ _ = true; kernel_rfl) | omega | rfl | (simp; done) | (simp; omega)
  refine awp_seqR (fun K hK => ?_)
  simp (maxSteps := 2000000) (disch := omega) [ints, rows, scal, wr64, wr8]
  (repeat' first | refine hK _ ?_ | apply And.intro) <;> clear hK K <;> try first | (show chkD _ _ = true; kernel_rfl) | omega | rfl | (simp; done) | (simp; omega)
  refine awp_seq ?_
  refine awp_block ?_
  refine awp_loop (fun k : Nat => mkS [(0, .t 2 (.int .i64 b)), (1, .t 2 (.int .i64 ((e - k : Nat) : Int))), (2, .t 2 (.int .i64 lim)), (7, .t 2 (.int .i64 (b ^ k : Nat)))] [] 0 27 [.any, .any, .any]) (fun k => k ≤ e ∧ (k = 0 ∨ (1 < b ∧ b ^ (k - 1) < lim))) (fun k => e - k) ?_ ?_
  · refine ⟨0, ⟨by omega, .inl rfl⟩, ?_⟩
    refine wk_list [] rfl ?_ ?_ ?_ ?_
    all_goals try simp [ints]
  · rintro k ⟨hk, hk2⟩
    have hbk : b ^ k ≤ 200000000000 := by
      rcases hk2 with rfl | ⟨h1, h2⟩
      · simp
      · by_cases h0 : k = 0
        · subst h0; simp
        · have : b ^ k = b ^ (k - 1) * b := by rw [← Nat.pow_succ]; congr 1; omega
          rw [this]
          calc b ^ (k - 1) * b ≤ 2000000 * 100000 := Nat.mul_le_mul (by omega) hb
            _ = 200000000000 := rfl
    refine awp_seq ?_
    have hpw : (b : Int) ^ k = ((b ^ k : Nat) : Int) := by simp
    by_cases hc1 : k < e
    case neg =>
      have g1 : decide ((((e - k : Nat) : Nat) : Int) > 0) = false := by simp; omega
      have hpl : min (b ^ k) lim = powL b e lim := by
        have : k = e := by omega
        rw [this]; rfl
      refine awp_seqR (fun K hK => ?_)
      simp (maxSteps := 2000000) (disch := omega) [ints, rows, scal, wr64, wr8, g1]
      (repeat' first | refine hK _ ?_ | apply And.intro) <;> clear hK K <;> try first | (show chkD _ _ = true; kernel_rfl) | omega | rfl | (simp; done) | (simp; omega)
      refine awp_cond (b := false) (p := 2) (by simp [scal] <;> omega) ?_
      refine awp_exit ?_
      show awp _ _ _ _
      refine awp_seqR (fun K hK => ?_)
      simp (maxSteps := 2000000) (disch := omega) [ints, rows, scal, wr64, wr8]
      (repeat' first | refine hK _ ?_ | apply And.intro) <;> clear hK K <;> try first | (show chkD _ _ = true; kernel_rfl) | omega | rfl | (simp; done) | (simp; omega)
      refine awp_ret ?_
      have hres : (if (lim : Int) < (b : Int) ^ k then (lim : Int) else (b : Int) ^ k) = (powL b e lim : Int) := by
        rw [hpw]
        have := hpl
        split <;> omega
      refine ⟨⟨.inr rfl, _, [], rfl, trivial, trivial, by simp [hres], ?_⟩, by simp [hres]⟩
      simp [hres]
    by_cases hc2 : 1 < b
    case neg =>
      have g1 : 0 < e - k := by omega
      have g2 : decide ((b : Int) > 1) = false := by simp; omega
      have hpl : min (b ^ k) lim = powL b e lim := by
        obtain rfl : b = 1 := by omega
        unfold powL
        simp
      refine awp_seqR (fun K hK => ?_)
      simp (maxSteps := 2000000) (disch := omega) [ints, rows, scal, wr64, wr8, g1, g2, hc2]
      (repeat' first | refine hK _ ?_ | apply And.intro) <;> clear hK K <;> try first | (show chkD _ _ = true; kernel_rfl) | omega | rfl | (simp; done) | (simp; omega)
      refine awp_cond (b := false) (p := 2) (by simp [scal] <;> omega) ?_
      refine awp_exit ?_
      show awp _ _ _ _
      refine awp_seqR (fun K hK => ?_)
      simp (maxSteps := 2000000) (disch := omega) [ints, rows, scal, wr64, wr8]
      (repeat' first | refine hK _ ?_ | apply And.intro) <;> clear hK K <;> try first | (show chkD _ _ = true; kernel_rfl) | omega | rfl | (simp; done) | (simp; omega)
      refine awp_ret ?_
      have hres : (if (lim : Int) < (b : Int) ^ k then (lim : Int) else (b : Int) ^ k) = (powL b e lim : Int) := by
        rw [hpw]
        have := hpl
        split <;> omega
      refine ⟨⟨.inr rfl, _, [], rfl, trivial, trivial, by simp [hres], ?_⟩, by simp [hres]⟩
      simp [hres]
    by_cases hc3 : b ^ k < lim
    case neg =>
      have g1 : 0 < e - k := by omega
      have g2 : decide ((b : Int) > 1) = true := by simp; omega
      have g3 : decide ((b : Int) ^ k < lim) = false := by rw [hpw]; simp only [decide_eq_false_iff_not]; omega
      have hpl : min (b ^ k) lim = powL b e lim := by
        unfold powL
        have : b ^ k ≤ b ^ e := Nat.pow_le_pow_right (by omega) (by omega)
        omega
      refine awp_seqR (fun K hK => ?_)
      simp (maxSteps := 2000000) (disch := omega) [ints, rows, scal, wr64, wr8, g1, g2, g3, hc2, hc3]
      (repeat' first | refine hK _ ?_ | apply And.intro) <;> clear hK K <;> try first | (show chkD _ _ = true; kernel_rfl) | omega | rfl | (simp; done) | (simp; omega)
      refine awp_cond (b := false) (p := 2) (by simp [scal] <;> omega) ?_
      refine awp_exit ?_
      show awp _ _ _ _
      refine awp_seqR (fun K hK => ?_)
      simp (maxSteps := 2000000) (disch := omega) [ints, rows, scal, wr64, wr8]
      (repeat' first | refine hK _ ?_ | apply And.intro) <;> clear hK K <;> try first | (show chkD _ _ = true; kernel_rfl) | omega | rfl | (simp; done) | (simp; omega)
      refine awp_ret ?_
      have hres : (if (lim : Int) < (b : Int) ^ k then (lim : Int) else (b : Int) ^ k) = (powL b e lim : Int) := by
        rw [hpw]
        have := hpl
        split <;> omega
      refine ⟨⟨.inr rfl, _, [], rfl, trivial, trivial, by simp [hres], ?_⟩, by simp [hres]⟩
      simp [hres]
    have g1 : 0 < e - k := by omega
    have g2 : decide ((b : Int) > 1) = true := by simp; omega
    have g3 : decide ((b : Int) ^ k < lim) = true := by rw [hpw]; simp only [decide_eq_true_eq]; omega
    refine awp_seqR (fun K hK => ?_)
    simp (maxSteps := 2000000) (disch := omega) [ints, rows, scal, wr64, wr8, g1, g2, g3, hc2, hc3]
    (repeat' first | refine hK _ ?_ | apply And.intro) <;> clear hK K <;> try first | (show chkD _ _ = true; kernel_rfl) | omega | rfl | (simp; done) | (simp; omega)
    refine awp_cond (b := true) (p := 2) (by simp [scal] <;> omega) ?_
    refine awp_skip ?_
    show awp _ _ _ _
    have hb2 : b ^ (k + 1) ≤ 200000000000 := by
      rw [Nat.pow_succ]
      calc b ^ k * b ≤ 2000000 * 100000 := Nat.mul_le_mul (by omega) hb
        _ = 200000000000 := rfl
    have hpw2 : (b : Int) ^ k * (b : Int) = ((b ^ (k + 1) : Nat) : Int) := by rw [Nat.pow_succ]; simp
    have hpw3 : (b : Int) ^ (k + 1) = ((b ^ (k + 1) : Nat) : Int) := by simp
    refine awp_seq ?_
    refine awp_block ?_
    refine awp_R (fun K hK => ?_)
    simp (maxSteps := 2000000) (disch := omega) [ints, rows, scal, wr64, wr8, hpw2]
    (repeat' first | refine hK _ ?_ | apply And.intro) <;> clear hK K <;> try first | (show chkD _ _ = true; kernel_rfl) | omega | rfl | (simp; done) | (simp; omega)
    show awp _ _ _ _
    refine awp_R (fun K hK => ?_)
    simp (maxSteps := 2000000) (disch := omega) [ints, rows, scal, wr64, wr8]
    (repeat' first | refine hK _ ?_ | apply And.intro) <;> clear hK K <;> try first | (show chkD _ _ = true; kernel_rfl) | omega | rfl | (simp; done) | (simp; omega)
    refine ⟨k + 1, ⟨by omega, .inr ⟨hc2, by simpa using hc3⟩⟩, by omega, ?_⟩
    refine wk_list [] rfl ?_ ?_ ?_ ?_
    all_goals try simp [ints]
    omega

def bkF (F : Nat → Int) (l : List Nat) (y : Nat) : Int := if y ∈ l then -1 else F y
set_option maxRecDepth 100000 in
set_option maxHeartbeats 4000000 in
theorem back_fn (t u : List (List Int)) (m : Nat) (F : Nat → Int) (l : List Nat) (S : List (Nat × Nat)) (k j : Nat) (hm : m ≤ 100000) (hk : k ≤ l.length) (hj : j ≤ S.length) (hl : l.length ≤ 100000) (hS : S.length ≤ 100000) (hlm : ∀ y ∈ l, y < m) :
    FnS Try.prog 79 [.ptr 0 0 5, .t 2 (.int .i64 k), .t 2 (.int .i64 j)] (dvH 1 t u m F l S) (.tup []) (dvH 1 t u m (bkF F (l.drop k)) (l.take k) (S.take j)) := by
  refine fn_intro Try.func79 rfl (by simp [Try.f79]) ?_
  rw [show Try.f79.ntmps = 44 from rfl, show Try.f79.results = #[] from rfl]
  refine awp_seq ?_
  refine awp_seqR (fun K hK => ?_)
  simp (maxSteps := 2000000) (disch := omega) [ints, rows, scal, wr64, wr8, dvH, dvB, ofO, paO, stO]
  (repeat' first | refine hK _ ?_ | apply And.intro) <;> clear hK K <;> try first | (show chkD _ _ = true; kernel_rfl) | omega | rfl | (simp; done) | (simp; omega)
  refine awp_block ?_
  refine awp_loop (fun i : Nat => mkS [(0, .ptr 0 0 5), (1, .t 2 (.int .i64 k)), (2, .t 2 (.int .i64 j)), (13, .sub 2 k (l.length - k) l.length), (14, .t 2 (.int .i64 (l.length - k : Nat))), (15, .t 2 (.int .i64 i))] [(0, dvB t u m l.length (S.length * 2)), (1, ofO 1 m (bkF F ((l.drop k).take i))), (2, paO 1 l), (3, stO 1 S)] 4 44 [.ptr 0 0 5, .any, .any]) (fun i => i ≤ l.length - k) (fun i => l.length - k - i) ?_ ?_
  · refine ⟨0, by omega, ?_⟩
    refine wk_list [(0, some 0), (1, some 1), (2, some 2), (3, some 3)] rfl ?_ ?_ ?_ ?_
    all_goals try simp [ints, dvH, dvB, ofO, paO, stO, bkF, rows]
  · intro i hi
    refine awp_seqR (fun K hK => ?_)
    simp (maxSteps := 2000000) (disch := omega) [ints, rows, scal, wr64, wr8]
    (repeat' first | refine hK _ ?_ | apply And.intro) <;> clear hK K <;> try first | (show chkD _ _ = true; kernel_rfl) | omega | rfl | (simp; done) | (simp; omega)
    refine awp_seq ?_
    by_cases hc : i < l.length - k
    · refine awp_cond (b := true) (p := 2) (by simp [scal, hc] <;> omega) ?_
      refine awp_skip ?_
      show awp _ _ _ _
      refine awp_seq ?_
      refine awp_block ?_
      have hki : k + i < l.length := by omega
      have hym : l[k + i] < m := hlm _ (List.getElem_mem hki)
      have hg := nsT_get hki
      refine awp_seqR (fun K hK => ?_)
      simp (maxSteps := 2000000) (disch := omega) [ints, rows, scal, wr64, wr8, dvB, ofO, paO, stO, hg]
      (repeat' first | refine hK _ ?_ | apply And.intro) <;> clear hK K <;> try first | (show chkD _ _ = true; kernel_rfl) | omega | rfl | (simp; done) | (simp; omega)
      refine awp_R (fun K hK => ?_)
      simp (maxSteps := 2000000) (disch := omega) [ints, rows, scal, wr64, wr8, dvB, ofO, paO, stO]
      (repeat' first | refine hK _ ?_ | apply And.intro) <;> clear hK K <;> try first | (show chkD _ _ = true; kernel_rfl) | omega | rfl | (simp; done) | (simp; omega)
      show awp _ _ _ _
      refine awp_R (fun K hK => ?_)
      simp (maxSteps := 2000000) (disch := omega) [ints, rows, scal, wr64, wr8]
      (repeat' first | refine hK _ ?_ | apply And.intro) <;> clear hK K <;> try first | (show chkD _ _ = true; kernel_rfl) | omega | rfl | (simp; done) | (simp; omega)
      refine ⟨i + 1, by omega, by omega, ?_⟩
      refine wk_list [(0, some 0), (1, some 1), (2, some 2), (3, some 3)] rfl ?_ ?_ ?_ ?_
      all_goals try simp [ints, dvB, ofO, paO, stO, tab_set, rows]
      refine tab_congr fun z hz => ?_
      have e1 : (l.drop k).take (i + 1) = (l.drop k).take i ++ [l[k + i]] := by
        rw [List.take_add_one]
        simp [hki]
      rw [e1]
      unfold bkF
      by_cases e : z = l[k + i]
      · rw [if_pos e, if_pos (by rw [e]; simp)]
      · rw [if_neg e]
        by_cases h : z ∈ (l.drop k).take i
        · rw [if_pos h, if_pos (List.mem_append.2 (.inl h))]
        · rw [if_neg h, if_neg (fun h2 => (List.mem_append.1 h2).elim h (fun h3 => e (by simpa using h3)))]
    · obtain rfl : i = l.length - k := by omega
      refine awp_cond (b := false) (p := 2) (by simp [scal, hc] <;> omega) ?_
      refine awp_exit ?_
      show awp _ _ _ _
      refine awp_RD (by kernel_rfl) (fun K hK => ?_)
      simp (maxSteps := 2000000) (disch := omega) [ints, rows, scal, wr64, wr8, dvB, ofO, paO, stO, prT_take, nsT_take]
      (repeat' first | refine hK _ ?_ | apply And.intro) <;> clear hK K <;> try first | (show chkD _ _ = true; kernel_rfl) | omega | rfl | (simp; done) | (simp; omega)
      refine ⟨_, [(0, some 0), (1, some 1), (2, some 8000004), (3, some 14000004)], (by first | rfl | (simp [ints, rows, scal, tpO, dvB, ofO, paO, stO, dvH, prT_take, nsT_take]; rfl)), ?_, ?_, ?_, ?_⟩
      all_goals try simp [ints, rows, scal, tpO, dvB, ofO, paO, stO, dvH, prT_take, nsT_take]
      exact ⟨⟨by omega, by omega⟩, by rw [List.take_of_length_le (by simp)]⟩
end Go.Proofs.Ytgghmjnbkbiffaa.M

namespace Go.Proofs.Ytgghmjnbkbiffaa.M
open Go.RowKit
set_option linter.unusedVariables false
set_option linter.unusedSimpArgs false

/-- A table: n rows of n numbers below n. -/
structure TbL (t : List (List Int)) (n : Nat) (T : Nat → Nat → Nat) : Prop where
  len : t.length = n
  row : ∀ r (h : r < t.length), t[r].length = n
  val : ∀ r c (h : r < t.length) (h2 : c < t[r].length), t[r][c] = (T r c : Int)
  lt : ∀ r c, r < n → c < n → T r c < n

theorem cut2 {cs : List T} {k : Nat} {a b : T} (h1 : cs[k]? = some a) (h2 : cs[k + 1]? = some b) : (cs.drop k).take 2 = [a, b] := by
  apply List.ext_getElem?
  intro i
  rw [List.getElem?_take]
  rcases i with _ | _ | i
  · simpa using h1
  · simpa using h2
  · rw [if_neg (by omega)]; simp
/-- What add leaves. -/
structure AddG (T U : Nat → Nat → Nat) (n m : Nat) (F : Nat → Int) (pairs : List Nat) (S : List (Nat × Nat)) (g im : Nat) (ok : Bool) (F' : Nat → Int) (pairs' : List Nat) (S' : List (Nat × Nat)) : Prop where
  num : DvNum T U n m S' F' pairs'
  pre : ∃ rest, pairs' = pairs ++ rest
  stp : S' = S ∨ S' = S ++ [(g, im)]
  agree : ∀ y, 0 ≤ F y → F' y = F y
  yes : ok = true → DvClosed T U S' F' pairs' ∧ F' im = (g : Int)
  no : ok = false → ¬ DvFun T U S'

set_option maxRecDepth 100000 in
set_option maxHeartbeats 4000000 in
theorem add_fn (t u : List (List Int)) (n m : Nat) (T U : Nat → Nat → Nat) (F : Nat → Int) (l : List Nat) (S : List (Nat × Nat)) (g im : Nat) (ht : TbL t n T) (hu : TbL u m U) (hn : n ≤ 100000) (hm : m ≤ 100000) (h0 : DvNum T U n m S F l) (hc : DvClosed T U S F l) (hg : g < n) (hi : im < m) (hS : S.length ≤ 100000) :
    ∃ ok F' l' S', AddG T U n m F l S g im ok F' l' S' ∧ FnS Try.prog 76 [.ptr 0 0 5, .t 2 (.int .i64 g), .t 2 (.int .i64 im)] (dvH 1 t u m F l S) (.t 2 (.bool ok)) (dvH 1 t u m F' l' S') := by
  have hlm := h0.len
  simp only [lnx] at hlm
  by_cases heq : F im = (g : Int)
  · refine ⟨true, F, l, S, ⟨h0, ⟨[], by simp⟩, .inl rfl, fun _ _ => rfl, fun _ => ⟨hc, heq⟩, fun h => by cases h⟩, ?_⟩
    refine fn_intro Try.func76 rfl (by simp [Try.f76]) ?_
    rw [show Try.f76.ntmps = 110 from rfl, show Try.f76.results = #[.tmp 6] from rfl]
    refine awp_seqR (fun K hK => ?_)
    simp (maxSteps := 2000000) (disch := omega) [ints, rows, scal, wr64, wr8]
    (repeat' first | refine hK _ ?_ | apply And.intro) <;> clear hK K <;> try first | (show chkD _ _ = true; kernel_rfl) | omega | rfl | (simp; done) | (simp; omega)
    refine awp_seq ?_
    refine awp_seqR (fun K hK => ?_)
    simp (maxSteps := 2000000) (disch := omega) [ints, rows, scal, wr64, wr8, dvH, dvB, ofO, paO, stO]
    (repeat' first | refine hK _ ?_ | apply And.intro) <;> clear hK K <;> try first | (show chkD _ _ = true; kernel_rfl) | omega | rfl | (simp; done) | (simp; omega)
    refine awp_cond (b := true) (p := 2) (by simp [scal, heq] <;> omega) ?_
    refine awp_seqR (fun K hK => ?_)
    simp (maxSteps := 2000000) (disch := omega) [ints, rows, scal, wr64, wr8]
    (repeat' first | refine hK _ ?_ | apply And.intro) <;> clear hK K <;> try first | (show chkD _ _ = true; kernel_rfl) | omega | rfl | (simp; done) | (simp; omega)
    refine awp_ret ?_
    refine ⟨⟨.inr rfl, _, [(0, some 0), (1, some 1), (2, some 2), (3, some 3)], (by first | rfl | (simp [ints, rows, scal, tpO, dvB, ofO, paO, stO, dvH]; rfl)), ?_, ?_, ?_, ?_⟩, ?_⟩
    all_goals try simp [ints, rows, scal, tpO, dvB, ofO, paO, stO, dvH]
  obtain ⟨S1, hS1⟩ : ∃ S1, S1 = S ++ [(g, im)] := ⟨_, rfl⟩
  have hS1l : S1.length = S.length + 1 := by rw [hS1]; simp
  have hS1x : lnx S1 = S.length + 1 := hS1l
  have hS1p : prT S ++ [.int .i64 (g : Int), .int .i64 (im : Int)] = prT S1 := by rw [hS1, prT_app]; rfl
  have hS1c : S.length * 2 + 2 = S1.length * 2 := by omega
  have hn2 := h0.grow hg hi
  have hr2 : DvR T U (S ++ [(g, im)]) im g := .base (p := (g, im)) (by simp)
  by_cases hfit : updP F im g im = (g : Int)
  case neg =>
    refine ⟨false, _, _, S1, ⟨by rw [hS1]; exact hn2.put hi hr2, addP_pre F l im, .inr hS1, fun y hy => updP_old hy, fun h => (by cases h), fun _ => by rw [hS1]; exact hn2.clash hi hr2 hfit⟩, ?_⟩
    refine fn_intro Try.func76 rfl (by simp [Try.f76]) ?_
    rw [show Try.f76.ntmps = 110 from rfl, show Try.f76.results = #[.tmp 6] from rfl]
    refine awp_seqR (fun K hK => ?_)
    simp (maxSteps := 2000000) (disch := omega) [ints, rows, scal, wr64, wr8]
    (repeat' first | refine hK _ ?_ | apply And.intro) <;> clear hK K <;> try first | (show chkD _ _ = true; kernel_rfl) | omega | rfl | (simp; done) | (simp; omega)
    refine awp_seq ?_
    refine awp_seqR (fun K hK => ?_)
    simp (maxSteps := 2000000) (disch := omega) [ints, rows, scal, wr64, wr8, dvH, dvB, ofO, paO, stO]
    (repeat' first | refine hK _ ?_ | apply And.intro) <;> clear hK K <;> try first | (show chkD _ _ = true; kernel_rfl) | omega | rfl | (simp; done) | (simp; omega)
    refine awp_cond (b := false) (p := 2) (by simp [scal, heq] <;> omega) ?_
    refine awp_skip ?_
    show awp _ _ _ _
    refine awp_seqR (fun K hK => ?_)
    simp (maxSteps := 2000000) (disch := omega) [ints, rows, scal, wr64, wr8, dvH, dvB, ofO, paO, stO, hS1p, hS1c]
    (repeat' first | refine hK _ ?_ | apply And.intro) <;> clear hK K <;> try first | (show chkD _ _ = true; kernel_rfl) | omega | rfl | (simp; done) | (simp; omega)
    refine awp_seqR (fun K hK => ?_)
    simp (maxSteps := 2000000) (disch := omega) [ints, rows, scal, wr64, wr8, dvH, dvB, ofO, paO, stO]
    (repeat' first | refine hK _ ?_ | apply And.intro) <;> clear hK K <;> try first | (show chkD _ _ = true; kernel_rfl) | omega | rfl | (simp; done) | (simp; omega)
    refine awp_seq ?_
    refine awp_seqR (fun K hK => ?_)
    simp (maxSteps := 2000000) (disch := omega) [ints, rows, scal, wr64, wr8]
    (repeat' apply And.intro)
    all_goals (try omega)
    refine call_ruleK (caps := []) (put_fn t u m F l S1 g im hm hi (by omega)) [0, 1, 2, 3] [0, 32000004, 32000005, 3] 1 rfl rfl rfl rfl (by kernel_rfl) (by simp) ?_ ?_ (by simp) rfl (by simp) ⟨.inr (.inl ⟨rfl, 0, _, _, _, _, _, rfl, rfl, rfl, rfl, rfl⟩), .inl ⟨by omega, by omega⟩, .inl ⟨by omega, by omega⟩, .inr (.inr ⟨rfl, by simp, by simp [dvH, dvB, ofO, paO, stO, hS1p, hS1c]⟩), trivial⟩ (by simp [dvH, dvB, ofO, paO, stO, hS1p, hS1c]) ?_
    · simp [scal, rows, ints, dvH, dvB, ofO, paO, stO, hS1p, hS1c]
    · simp [scal, rows, ints, dvH, dvB, ofO, paO, stO, hS1p, hS1c]
    simp (maxSteps := 2000000) (disch := omega) [ints, rows, scal, wr64, wr8]
    (repeat' first | refine hK _ ?_ | apply And.intro) <;> clear hK K <;> try first | (show chkD _ _ = true; kernel_rfl) | omega | rfl | (simp; done) | (simp; omega)
    refine awp_cond (b := true) (p := 2) (by simp [scal, hfit] <;> omega) ?_
    refine awp_seqR (fun K hK => ?_)
    simp (maxSteps := 2000000) (disch := omega) [ints, rows, scal, wr64, wr8]
    (repeat' first | refine hK _ ?_ | apply And.intro) <;> clear hK K <;> try first | (show chkD _ _ = true; kernel_rfl) | omega | rfl | (simp; done) | (simp; omega)
    refine awp_ret ?_
    refine ⟨⟨.inr rfl, _, [(0, some 0), (1, some 32000004), (2, some 32000005), (3, some 3)], (by first | rfl | (simp [ints, rows, scal, tpO, dvB, ofO, paO, stO, dvH]; rfl)), ?_, ?_, ?_, ?_⟩, ?_⟩
    all_goals try simp [ints, rows, scal, tpO, dvB, ofO, paO, stO, dvH]
  case pos =>
  have had0 : AdNum T U n m S F (updP F im g) l (addP F l im) g im := ⟨hn2.put hi hr2, addP_pre F l im, fun y hy => updP_old hy, hfit⟩
  suffices hsuf : ∃ res H', (∃ ok F' l' S', AddG T U n m F l S g im ok F' l' S' ∧ res = .t 2 (.bool ok) ∧ H' = dvH 1 t u m F' l' S') ∧ FnS Try.prog 76 [.ptr 0 0 5, .t 2 (.int .i64 g), .t 2 (.int .i64 im)] (dvH 1 t u m F l S) res H' by
    obtain ⟨res, H', ⟨ok, F', l', S', h1, rfl, rfl⟩, h2⟩ := hsuf
    exact ⟨ok, F', l', S', h1, h2⟩
  refine fn_introGE Try.func76 rfl (by simp [Try.f76]) ?_
  rw [show Try.f76.ntmps = 110 from rfl, show Try.f76.results = #[.tmp 6] from rfl]
  refine awp_seqR (fun K hK => ?_)
  simp (maxSteps := 2000000) (disch := omega) [ints, rows, scal, wr64, wr8]
  (repeat' first | refine hK _ ?_ | apply And.intro) <;> clear hK K <;> try first | (show chkD _ _ = true; kernel_rfl) | omega | rfl | (simp; done) | (simp; omega)
  refine awp_seq ?_
  refine awp_seqR (fun K hK => ?_)
  simp (maxSteps := 2000000) (disch := omega) [ints, rows, scal, wr64, wr8, dvH, dvB, ofO, paO, stO]
  (repeat' first | refine hK _ ?_ | apply And.intro) <;> clear hK K <;> try first | (show chkD _ _ = true; kernel_rfl) | omega | rfl | (simp; done) | (simp; omega)
  refine awp_cond (b := false) (p := 2) (by simp [scal, heq] <;> omega) ?_
  refine awp_skip ?_
  show awp _ _ _ _
  refine awp_seqR (fun K hK => ?_)
  simp (maxSteps := 2000000) (disch := omega) [ints, rows, scal, wr64, wr8, dvH, dvB, ofO, paO, stO, hS1p, hS1c]
  (repeat' first | refine hK _ ?_ | apply And.intro) <;> clear hK K <;> try first | (show chkD _ _ = true; kernel_rfl) | omega | rfl | (simp; done) | (simp; omega)
  refine awp_seqR (fun K hK => ?_)
  simp (maxSteps := 2000000) (disch := omega) [ints, rows, scal, wr64, wr8, dvH, dvB, ofO, paO, stO]
  (repeat' first | refine hK _ ?_ | apply And.intro) <;> clear hK K <;> try first | (show chkD _ _ = true; kernel_rfl) | omega | rfl | (simp; done) | (simp; omega)
  refine awp_seq ?_
  refine awp_seqR (fun K hK => ?_)
  simp (maxSteps := 2000000) (disch := omega) [ints, rows, scal, wr64, wr8]
  (repeat' apply And.intro)
  all_goals (try omega)
  refine call_ruleK (caps := []) (put_fn t u m F l S1 g im hm hi (by omega)) [0, 1, 2, 3] [0, 32000004, 32000005, 3] 1 rfl rfl rfl rfl (by kernel_rfl) (by simp) ?_ ?_ (by simp) rfl (by simp) ⟨.inr (.inl ⟨rfl, 0, _, _, _, _, _, rfl, rfl, rfl, rfl, rfl⟩), .inl ⟨by omega, by omega⟩, .inl ⟨by omega, by omega⟩, .inr (.inr ⟨rfl, by simp, by simp [dvH, dvB, ofO, paO, stO, hS1p, hS1c]⟩), trivial⟩ (by simp [dvH, dvB, ofO, paO, stO, hS1p, hS1c]) ?_
  · simp [scal, rows, ints, dvH, dvB, ofO, paO, stO, hS1p, hS1c]
  · simp [scal, rows, ints, dvH, dvB, ofO, paO, stO, hS1p, hS1c]
  simp (maxSteps := 2000000) (disch := omega) [ints, rows, scal, wr64, wr8]
  (repeat' first | refine hK _ ?_ | apply And.intro) <;> clear hK K <;> try first | (show chkD _ _ = true; kernel_rfl) | omega | rfl | (simp; done) | (simp; omega)
  refine awp_cond (b := false) (p := 2) (by simp [scal, hfit] <;> omega) ?_
  refine awp_skip ?_
  show awp _ _ _ _
  refine awp_seq ?_
  refine awp_seqR (fun K hK => ?_)
  simp (maxSteps := 2000000) (disch := omega) [ints, rows, scal, wr64, wr8]
  (repeat' first | refine hK _ ?_ | apply And.intro) <;> clear hK K <;> try first | (show chkD _ _ = true; kernel_rfl) | omega | rfl | (simp; done) | (simp; omega)
  refine awp_block ?_
  refine awp_loop (fun y : Nat × (Nat → Int) × List Nat => mkS [(0, .ptr 0 0 5), (7, .t 2 (.int .i64 l.length)), (8, .t 2 (.int .i64 y.1))] [(0, dvB t u m y.2.2.length (S1.length * 2)), (1, ofO 1 m y.2.1), (2, paO 1 y.2.2), (3, stO 1 S1)] 4 110 [.ptr 0 0 5, .any, .any]) (fun y => y.1 ≤ y.2.2.length ∧ AdNum T U n m S F y.2.1 l y.2.2 g im ∧ (∀ j, j < y.1 → ∀ d, d < S.length + 1 → DvAt T U y.2.1 (nthx y.2.2 j) (nthx S1 d))) (fun y => m - y.1) ?_ ?_
  · refine ⟨(0, updP F im g, addP F l im), ⟨by simp, had0, fun j hj => by simp at hj⟩, ?_⟩
    refine wk_list [(0, some 0), (1, some 32000004), (2, some 32000005), (3, some 3)] rfl ?_ ?_ ?_ ?_
    all_goals try simp [ints, dvH, dvB, ofO, paO, stO, rows, scal]
  · rintro ⟨ii, F2, l2⟩ ⟨hii, had, hdone⟩
    simp only at hii had hdone
    have hml2 := had.num.len
    simp only [lnx] at hml2
    refine awp_seq ?_
    refine awp_seqR (fun K hK => ?_)
    simp (maxSteps := 2000000) (disch := omega) [ints, rows, scal, wr64, wr8, dvB, paO]
    (repeat' first | refine hK _ ?_ | apply And.intro) <;> clear hK K <;> try first | (show chkD _ _ = true; kernel_rfl) | omega | rfl | (simp; done) | (simp; omega)
    by_cases hlt : ii < l2.length
    case neg =>
      refine awp_cond (b := false) (p := 2) (by simp [scal, hlt] <;> omega) ?_
      refine awp_exit ?_
      show awp _ _ _ _
      refine awp_seqR (fun K hK => ?_)
      simp (maxSteps := 2000000) (disch := omega) [ints, rows, scal, wr64, wr8]
      (repeat' first | refine hK _ ?_ | apply And.intro) <;> clear hK K <;> try first | (show chkD _ _ = true; kernel_rfl) | omega | rfl | (simp; done) | (simp; omega)
      refine awp_ret ?_
      have hcd : DvClosed T U (S ++ [(g, im)]) F2 l2 := had.closed hc (fun y hy p hp => by
        obtain ⟨j, hj, rfl⟩ := mem_nthx hy
        obtain ⟨d, hd, rfl⟩ := mem_nthx hp
        rw [← hS1] at hd ⊢
        simp only [lnx] at hj hd
        exact hdone j (by omega) d (by omega))
      refine ⟨⟨_, _, ⟨true, F2, l2, S1, ⟨by rw [hS1]; exact had.num, had.pre, .inr hS1, had.agree, fun _ => ⟨by rw [hS1]; exact hcd, had.at_⟩, fun h => by cases h⟩, rfl, rfl⟩, resQ_G ?_⟩, by simp⟩
      refine ⟨.inr rfl, _, [(0, some 0), (1, some 1), (2, some 2), (3, some 3)], (by first | (simp; rfl) | rfl), ?_, ?_, ?_, ?_⟩
      all_goals try simp +contextual (disch := omega) [beq_gt, beq_lt, eq_lt, eq_gt, lt_t, List.getElem?_cons_succ, Option.getD_some, callF, ints, scal, tpO, wkPs_snoc, wkPs_tab, wkT_tab, wk1, rows, bools, dvH, dvB, ofO, paO, stO, rows]
    case pos =>
    obtain ⟨yv, hyv⟩ : ∃ yv, yv = nthx l2 ii := ⟨_, rfl⟩
    have hym2 : yv ∈ l2 := by rw [hyv]; exact nthx_mem (show ii < lnx l2 from hlt)
    have hyl := had.num.lt yv hym2
    have hg2 : (nsT l2)[ii]? = some (.int .i64 (yv : Int)) := by rw [nsT_get hlt, hyv]; simp [nthx, hlt]
    refine awp_cond (b := true) (p := 2) (by simp [scal, hlt] <;> omega) ?_
    refine awp_skip ?_
    show awp _ _ _ _
    refine awp_seq ?_
    refine awp_block ?_
    refine awp_seqR (fun K hK => ?_)
    simp (maxSteps := 2000000) (disch := omega) [ints, rows, scal, wr64, wr8, dvB, ofO, paO, stO, hg2]
    (repeat' first | refine hK _ ?_ | apply And.intro) <;> clear hK K <;> try first | (show chkD _ _ = true; kernel_rfl) | omega | rfl | (simp; done) | (simp; omega)
    refine awp_seqR (fun K hK => ?_)
    simp (maxSteps := 2000000) (disch := omega) [ints, rows, scal, wr64, wr8, dvB, ofO, paO, stO]
    (repeat' first | refine hK _ ?_ | apply And.intro) <;> clear hK K <;> try first | (show chkD _ _ = true; kernel_rfl) | omega | rfl | (simp; done) | (simp; omega)
    refine awp_seq ?_
    refine awp_seqR (fun K hK => ?_)
    simp (maxSteps := 2000000) (disch := omega) [ints, rows, scal, wr64, wr8]
    (repeat' first | refine hK _ ?_ | apply And.intro) <;> clear hK K <;> try first | (show chkD _ _ = true; kernel_rfl) | omega | rfl | (simp; done) | (simp; omega)
    by_cases hbef : ii < l.length
    · have hold : ∀ d, d < S.length + 0 → DvAt T U F2 yv (nthx S1 d) := fun d hd => by
        rw [hS1, nthx_append_lt _ _ (show d < lnx S from hd)]
        refine had.old h0 hc hu.lt ?_ (nthx_mem (show d < lnx S from hd))
        rw [hyv, had.nth (show ii < lnx l from hbef)]
        exact nthx_mem (show ii < lnx l from hbef)
      refine awp_cond (b := true) (p := 2) (by simp [scal, hbef] <;> omega) ?_
      refine awp_R (fun K hK => ?_)
      simp (maxSteps := 2000000) (disch := omega) [ints, rows, scal, wr64, wr8, dvB, ofO, paO, stO, hS1l]
      (repeat' first | refine hK _ ?_ | apply And.intro) <;> clear hK K <;> try first | (show chkD _ _ = true; kernel_rfl) | omega | rfl | (simp; done) | (simp; omega)
      show awp _ _ _ _
      refine awp_seqR (fun K hK => ?_)
      simp (maxSteps := 2000000) (disch := omega) [ints, rows, scal, wr64, wr8, dvB, ofO, paO, stO, hS1l]
      (repeat' first | refine hK _ ?_ | apply And.intro) <;> clear hK K <;> try first | (show chkD _ _ = true; kernel_rfl) | omega | rfl | (simp; done) | (simp; omega)
      refine awp_block ?_
      refine awp_loop (fun y : Nat × (Nat → Int) × List Nat => mkS [(0, .ptr 0 0 5), (7, .t 2 (.int .i64 l.length)), (8, .t 2 (.int .i64 ii)), (9, .t 2 (.int .i64 (yv : Nat))), (72, .sub 3 (S.length * 2) 1 (S1.length * 2)), (73, .t 2 (.int .i64 (1 : Nat))), (74, .t 2 (.int .i64 y.1))] [(0, dvB t u m y.2.2.length (S1.length * 2)), (1, ofO 1 m y.2.1), (2, paO 1 y.2.2), (3, stO 1 S1)] 4 110 [.ptr 0 0 5, .any, .any]) (fun y => y.1 ≤ 1 ∧ AdNum T U n m S F y.2.1 l y.2.2 g im ∧ (∀ j, j < ii → ∀ d, d < S.length + 1 → DvAt T U y.2.1 (nthx y.2.2 j) (nthx S1 d)) ∧ ii < y.2.2.length ∧ nthx y.2.2 ii = yv ∧ (∀ d, d < S.length + y.1 → DvAt T U y.2.1 yv (nthx S1 d))) (fun y => 1 - y.1) ?_ ?_
      · refine ⟨(0, F2, l2), ⟨by simp, had, hdone, hlt, hyv.symm, hold⟩, ?_⟩
        refine wk_list [(0, some 0), (1, some 1), (2, some 2), (3, some 3)] rfl ?_ ?_ ?_ ?_
        all_goals try simp [ints, dvB, ofO, paO, stO, rows, hS1l]
      · rintro ⟨dd, F3, l3⟩ ⟨hdd, had3, hdone3, hil, hye, hnow⟩
        simp only at hdd had3 hdone3 hil hye hnow
        have hml3 := had3.num.len
        simp only [lnx] at hml3
        refine awp_seqR (fun K hK => ?_)
        simp (maxSteps := 2000000) (disch := omega) [ints, rows, scal, wr64, wr8]
        (repeat' first | refine hK _ ?_ | apply And.intro) <;> clear hK K <;> try first | (show chkD _ _ = true; kernel_rfl) | omega | rfl | (simp; done) | (simp; omega)
        refine awp_seq ?_
        by_cases hdq : dd < 1
        · have hpi : S.length + dd < S1.length := by rw [hS1l]; omega
          obtain ⟨p, hp⟩ : ∃ p, p = S1[S.length + dd] := ⟨_, rfl⟩
          have hpm : p ∈ S1 := by rw [hp]; exact List.getElem_mem hpi
          have hpn : nthx S1 (S.length + dd) = p := by rw [hp]; unfold nthx; rw [List.getD_eq_getElem?_getD, List.getElem?_eq_getElem hpi]; rfl
          obtain ⟨hp1, hp2⟩ := had3.num.rng p (by rw [← hS1]; exact hpm)
          have hym : yv ∈ l3 := by rw [← hye]; exact nthx_mem (show ii < lnx l3 from hil)
          have hF0 := (had3.num.mem yv hyl).2 hym
          obtain ⟨fx, hfx⟩ : ∃ fx : Nat, F3 yv = (fx : Int) := ⟨(F3 yv).toNat, by omega⟩
          have hfxn : fx < n := by have := had3.num.xlt ht.lt hu.lt hyl hF0; omega
          have hTz := ht.lt fx p.1 hfxn hp1
          have hUz := hu.lt yv p.2 hyl hp2
          have hrel2 : DvR T U (S ++ [(g, im)]) (U yv p.2) (T fx p.1) := by
            have := had3.num.snd yv hyl hF0
            rw [show (F3 yv).toNat = fx by omega] at this
            exact .step this (by rw [← hS1]; exact hpm)
          have hcell := prT_at S1 (S.length + dd) p (by rw [List.getElem?_eq_getElem hpi, hp])
          have hcut : ((prT S1).drop ((S.length + dd) * 2)).take 2 = [.int .i64 (p.1 : Int), .int .i64 (p.2 : Int)] := cut2 hcell.1 hcell.2
          have hft : fx < t.length := by rw [ht.len]; exact hfxn
          have hft2 : p.1 < (t[fx]).length := by rw [ht.row]; exact hp1
          have hyu : yv < u.length := by rw [hu.len]; exact hyl
          have hyu2 : p.2 < (u[yv]).length := by rw [hu.row]; exact hp2
          have htv := ht.val fx p.1 hft hft2
          have huv := hu.val yv p.2 hyu hyu2
          have hcut2 : ((prT S1).drop (S.length * 2 + dd * 2)).take 2 = [.int .i64 (p.1 : Int), .int .i64 (p.2 : Int)] := by rw [← Nat.add_mul]; exact hcut
          refine awp_cond (b := true) (p := 2) (by simp [scal, hdq] <;> omega) ?_
          refine awp_skip ?_
          show awp _ _ _ _
          refine awp_seq ?_
          refine awp_block ?_
          refine awp_seqR (fun K hK => ?_)
          simp (maxSteps := 2000000) (disch := omega) [ints, rows, scal, wr64, wr8, dvB, ofO, paO, stO, hcut, hcut2, hS1l]
          (repeat' first | refine hK _ ?_ | apply And.intro) <;> clear hK K <;> try first | (show chkD _ _ = true; kernel_rfl) | omega | rfl | (simp; done) | (simp; omega)
          refine awp_seqD (by kernel_rfl) (fun K hK => ?_)
          simp (maxSteps := 2000000) (disch := omega) [ints, rows, scal, wr64, wr8, dvB, ofO, paO, stO, hfx, htv, huv]
          (repeat' apply And.intro)
          all_goals (try omega)
          refine call_ruleDK (caps := []) (put_fn t u m F3 l3 S1 (T fx p.1) (U yv p.2) hm hUz (by omega)) [0, 1, 2, 3] [0, 34000004, 34000005, 3] 1 rfl rfl rfl rfl (by kernel_rfl) (by simp) ?_ ?_ (by simp) rfl (by simp) ⟨.inr (.inl ⟨rfl, 0, _, _, _, _, _, rfl, rfl, rfl, rfl, rfl⟩), .inl ⟨by omega, by omega⟩, .inl ⟨by omega, by omega⟩, .inr (.inr ⟨rfl, by simp, by simp [dvH, dvB, ofO, paO, stO, hS1l]⟩), trivial⟩ (by simp [dvH, dvB, ofO, paO, stO, hS1l]) ?_
          · simp [scal, rows, ints, dvH, dvB, ofO, paO, stO, hS1l]
          · simp [scal, rows, ints, dvH, dvB, ofO, paO, stO, hS1l]
          simp (maxSteps := 2000000) (disch := omega) [ints, rows, scal, wr64, wr8]
          (repeat' first | refine hK _ ?_ | apply And.intro) <;> clear hK K <;> try first | (show chkD _ _ = true; kernel_rfl) | omega | rfl | (simp; done) | (simp; omega)
          by_cases hfit3 : updP F3 (U yv p.2) (T fx p.1) (U yv p.2) = (T fx p.1 : Int)
          · refine awp_cond (b := false) (p := 2) (by simp [scal, hfit3] <;> omega) ?_
            refine awp_skip ?_
            show awp _ _ _ _
            refine awp_R (fun K hK => ?_)
            simp (maxSteps := 2000000) (disch := omega) [ints, rows, scal, wr64, wr8]
            (repeat' first | refine hK _ ?_ | apply And.intro) <;> clear hK K <;> try first | (show chkD _ _ = true; kernel_rfl) | omega | rfl | (simp; done) | (simp; omega)
            have had4 := had3.put hUz hrel2
            have hl := addP_len F3 l3 (U yv p.2)
            simp only [lnx] at hl
            refine ⟨(dd + 1, updP F3 (U yv p.2) (T fx p.1), addP F3 l3 (U yv p.2)), ⟨by simp only; omega, had4, fun j hj d hd => ?_, by simp only; omega, by simp only; rw [addP_nth (show ii < lnx l3 from hil)]; exact hye, fun d hd => ?_⟩, by simp only; omega, ?_⟩
            · simp only
              rw [addP_nth (by simp only [lnx]; omega)]
              exact (hdone3 j hj d hd).put _ _
            · simp only at hd ⊢
              by_cases e : d = S.length + dd
              · rw [e, hpn]
                have hy3 : updP F3 (U yv p.2) (T fx p.1) yv = (fx : Int) := by rw [updP_old (by rw [hfx]; omega), hfx]
                refine ⟨by rw [hy3]; omega, by rw [hfit3]; omega, ?_⟩
                rw [hfit3, hy3]
                rfl
              · exact (hnow d (by omega)).put _ _
            · refine wk_list [(0, some 0), (1, some 34000004), (2, some 34000005), (3, some 3)] rfl ?_ ?_ ?_ ?_
              all_goals try simp [ints, dvH, dvB, ofO, paO, stO, rows, scal, hS1l]
          · refine awp_cond (b := true) (p := 2) (by simp [scal, hfit3] <;> omega) ?_
            refine awp_seqR (fun K hK => ?_)
            simp (maxSteps := 2000000) (disch := omega) [ints, rows, scal, wr64, wr8]
            (repeat' first | refine hK _ ?_ | apply And.intro) <;> clear hK K <;> try first | (show chkD _ _ = true; kernel_rfl) | omega | rfl | (simp; done) | (simp; omega)
            refine awp_ret ?_
            have had4 := had3.put hUz hrel2
            refine ⟨⟨_, _, ⟨false, _, _, S1, ⟨by rw [hS1]; exact had4.num, had4.pre, .inr hS1, had4.agree, fun h => (by cases h), fun _ => by rw [hS1]; exact had3.num.clash hUz hrel2 hfit3⟩, rfl, rfl⟩, resQ_G ?_⟩, by simp⟩
            refine ⟨.inr rfl, _, [(0, some 0), (1, some 34000004), (2, some 34000005), (3, some 3)], (by first | (simp; rfl) | rfl), ?_, ?_, ?_, ?_⟩
            all_goals try simp +contextual (disch := omega) [beq_gt, beq_lt, eq_lt, eq_gt, lt_t, List.getElem?_cons_succ, Option.getD_some, callF, ints, scal, tpO, wkPs_snoc, wkPs_tab, wkT_tab, wk1, rows, bools, dvH, dvB, ofO, paO, stO, rows]
        · refine awp_cond (b := false) (p := 2) (by simp [scal, hdq] <;> omega) ?_
          refine awp_exit ?_
          show awp _ _ _ _
          refine awp_R (fun K hK => ?_)
          simp (maxSteps := 2000000) (disch := omega) [ints, rows, scal, wr64, wr8]
          (repeat' first | refine hK _ ?_ | apply And.intro) <;> clear hK K <;> try first | (show chkD _ _ = true; kernel_rfl) | omega | rfl | (simp; done) | (simp; omega)
          refine ⟨(ii + 1, F3, l3), ⟨by simp only; omega, had3, fun j hj d hd => ?_⟩, by simp only; omega, ?_⟩
          · simp only
            by_cases e : j = ii
            · rw [e, hye]; exact hnow d (by omega)
            · exact hdone3 j (by omega) d hd
          · refine wk_list [(0, some 0), (1, some 1), (2, some 2), (3, some 3)] rfl ?_ ?_ ?_ ?_
            all_goals try simp [ints, dvB, ofO, paO, stO, rows]
    · have hold : ∀ d, d < 0 + 0 → DvAt T U F2 yv (nthx S1 d) := fun d hd => by omega
      refine awp_cond (b := false) (p := 2) (by simp [scal, hbef] <;> omega) ?_
      refine awp_skip ?_
      show awp _ _ _ _
      refine awp_seqR (fun K hK => ?_)
      simp (maxSteps := 2000000) (disch := omega) [ints, rows, scal, wr64, wr8, dvB, ofO, paO, stO, hS1l]
      (repeat' first | refine hK _ ?_ | apply And.intro) <;> clear hK K <;> try first | (show chkD _ _ = true; kernel_rfl) | omega | rfl | (simp; done) | (simp; omega)
      refine awp_block ?_
      refine awp_loop (fun y : Nat × (Nat → Int) × List Nat => mkS [(0, .ptr 0 0 5), (7, .t 2 (.int .i64 l.length)), (8, .t 2 (.int .i64 ii)), (9, .t 2 (.int .i64 (yv : Nat))), (72, .own 3 (S1.length * 2)), (73, .t 2 (.int .i64 ((S.length + 1) : Nat))), (74, .t 2 (.int .i64 y.1))] [(0, dvB t u m y.2.2.length (S1.length * 2)), (1, ofO 1 m y.2.1), (2, paO 1 y.2.2), (3, stO 1 S1)] 4 110 [.ptr 0 0 5, .any, .any]) (fun y => y.1 ≤ (S.length + 1) ∧ AdNum T U n m S F y.2.1 l y.2.2 g im ∧ (∀ j, j < ii → ∀ d, d < S.length + 1 → DvAt T U y.2.1 (nthx y.2.2 j) (nthx S1 d)) ∧ ii < y.2.2.length ∧ nthx y.2.2 ii = yv ∧ (∀ d, d < 0 + y.1 → DvAt T U y.2.1 yv (nthx S1 d))) (fun y => (S.length + 1) - y.1) ?_ ?_
      · refine ⟨(0, F2, l2), ⟨by simp, had, hdone, hlt, hyv.symm, hold⟩, ?_⟩
        refine wk_list [(0, some 0), (1, some 1), (2, some 2), (3, some 3)] rfl ?_ ?_ ?_ ?_
        all_goals try simp [ints, dvB, ofO, paO, stO, rows, hS1l]
      · rintro ⟨dd, F3, l3⟩ ⟨hdd, had3, hdone3, hil, hye, hnow⟩
        simp only at hdd had3 hdone3 hil hye hnow
        have hml3 := had3.num.len
        simp only [lnx] at hml3
        refine awp_seqR (fun K hK => ?_)
        simp (maxSteps := 2000000) (disch := omega) [ints, rows, scal, wr64, wr8]
        (repeat' first | refine hK _ ?_ | apply And.intro) <;> clear hK K <;> try first | (show chkD _ _ = true; kernel_rfl) | omega | rfl | (simp; done) | (simp; omega)
        refine awp_seq ?_
        by_cases hdq : dd < (S.length + 1)
        · have hpi : 0 + dd < S1.length := by rw [hS1l]; omega
          obtain ⟨p, hp⟩ : ∃ p, p = S1[0 + dd] := ⟨_, rfl⟩
          have hpm : p ∈ S1 := by rw [hp]; exact List.getElem_mem hpi
          have hpn : nthx S1 (0 + dd) = p := by rw [hp]; unfold nthx; rw [List.getD_eq_getElem?_getD, List.getElem?_eq_getElem hpi]; rfl
          obtain ⟨hp1, hp2⟩ := had3.num.rng p (by rw [← hS1]; exact hpm)
          have hym : yv ∈ l3 := by rw [← hye]; exact nthx_mem (show ii < lnx l3 from hil)
          have hF0 := (had3.num.mem yv hyl).2 hym
          obtain ⟨fx, hfx⟩ : ∃ fx : Nat, F3 yv = (fx : Int) := ⟨(F3 yv).toNat, by omega⟩
          have hfxn : fx < n := by have := had3.num.xlt ht.lt hu.lt hyl hF0; omega
          have hTz := ht.lt fx p.1 hfxn hp1
          have hUz := hu.lt yv p.2 hyl hp2
          have hrel2 : DvR T U (S ++ [(g, im)]) (U yv p.2) (T fx p.1) := by
            have := had3.num.snd yv hyl hF0
            rw [show (F3 yv).toNat = fx by omega] at this
            exact .step this (by rw [← hS1]; exact hpm)
          have hcell := prT_at S1 (0 + dd) p (by rw [List.getElem?_eq_getElem hpi, hp])
          have hcut : ((prT S1).drop ((0 + dd) * 2)).take 2 = [.int .i64 (p.1 : Int), .int .i64 (p.2 : Int)] := cut2 hcell.1 hcell.2
          have hft : fx < t.length := by rw [ht.len]; exact hfxn
          have hft2 : p.1 < (t[fx]).length := by rw [ht.row]; exact hp1
          have hyu : yv < u.length := by rw [hu.len]; exact hyl
          have hyu2 : p.2 < (u[yv]).length := by rw [hu.row]; exact hp2
          have htv := ht.val fx p.1 hft hft2
          have huv := hu.val yv p.2 hyu hyu2
          have hcut2 : ((prT S1).drop (dd * 2)).take 2 = [.int .i64 (p.1 : Int), .int .i64 (p.2 : Int)] := by simpa using hcut
          refine awp_cond (b := true) (p := 2) (by simp [scal, hdq] <;> omega) ?_
          refine awp_skip ?_
          show awp _ _ _ _
          refine awp_seq ?_
          refine awp_block ?_
          refine awp_seqR (fun K hK => ?_)
          simp (maxSteps := 2000000) (disch := omega) [ints, rows, scal, wr64, wr8, dvB, ofO, paO, stO, hcut, hcut2, hS1l]
          (repeat' first | refine hK _ ?_ | apply And.intro) <;> clear hK K <;> try first | (show chkD _ _ = true; kernel_rfl) | omega | rfl | (simp; done) | (simp; omega)
          refine awp_seqD (by kernel_rfl) (fun K hK => ?_)
          simp (maxSteps := 2000000) (disch := omega) [ints, rows, scal, wr64, wr8, dvB, ofO, paO, stO, hfx, htv, huv]
          (repeat' apply And.intro)
          all_goals (try omega)
          refine call_ruleDK (caps := []) (put_fn t u m F3 l3 S1 (T fx p.1) (U yv p.2) hm hUz (by omega)) [0, 1, 2, 3] [0, 34000004, 34000005, 3] 1 rfl rfl rfl rfl (by kernel_rfl) (by simp) ?_ ?_ (by simp) rfl (by simp) ⟨.inr (.inl ⟨rfl, 0, _, _, _, _, _, rfl, rfl, rfl, rfl, rfl⟩), .inl ⟨by omega, by omega⟩, .inl ⟨by omega, by omega⟩, .inr (.inr ⟨rfl, by simp, by simp [dvH, dvB, ofO, paO, stO, hS1l]⟩), trivial⟩ (by simp [dvH, dvB, ofO, paO, stO, hS1l]) ?_
          · simp [scal, rows, ints, dvH, dvB, ofO, paO, stO, hS1l]
          · simp [scal, rows, ints, dvH, dvB, ofO, paO, stO, hS1l]
          simp (maxSteps := 2000000) (disch := omega) [ints, rows, scal, wr64, wr8]
          (repeat' first | refine hK _ ?_ | apply And.intro) <;> clear hK K <;> try first | (show chkD _ _ = true; kernel_rfl) | omega | rfl | (simp; done) | (simp; omega)
          by_cases hfit3 : updP F3 (U yv p.2) (T fx p.1) (U yv p.2) = (T fx p.1 : Int)
          · refine awp_cond (b := false) (p := 2) (by simp [scal, hfit3] <;> omega) ?_
            refine awp_skip ?_
            show awp _ _ _ _
            refine awp_R (fun K hK => ?_)
            simp (maxSteps := 2000000) (disch := omega) [ints, rows, scal, wr64, wr8]
            (repeat' first | refine hK _ ?_ | apply And.intro) <;> clear hK K <;> try first | (show chkD _ _ = true; kernel_rfl) | omega | rfl | (simp; done) | (simp; omega)
            have had4 := had3.put hUz hrel2
            have hl := addP_len F3 l3 (U yv p.2)
            simp only [lnx] at hl
            refine ⟨(dd + 1, updP F3 (U yv p.2) (T fx p.1), addP F3 l3 (U yv p.2)), ⟨by simp only; omega, had4, fun j hj d hd => ?_, by simp only; omega, by simp only; rw [addP_nth (show ii < lnx l3 from hil)]; exact hye, fun d hd => ?_⟩, by simp only; omega, ?_⟩
            · simp only
              rw [addP_nth (by simp only [lnx]; omega)]
              exact (hdone3 j hj d hd).put _ _
            · simp only at hd ⊢
              by_cases e : d = 0 + dd
              · rw [e, hpn]
                have hy3 : updP F3 (U yv p.2) (T fx p.1) yv = (fx : Int) := by rw [updP_old (by rw [hfx]; omega), hfx]
                refine ⟨by rw [hy3]; omega, by rw [hfit3]; omega, ?_⟩
                rw [hfit3, hy3]
                rfl
              · exact (hnow d (by omega)).put _ _
            · refine wk_list [(0, some 0), (1, some 34000004), (2, some 34000005), (3, some 3)] rfl ?_ ?_ ?_ ?_
              all_goals try simp [ints, dvH, dvB, ofO, paO, stO, rows, scal, hS1l]
          · refine awp_cond (b := true) (p := 2) (by simp [scal, hfit3] <;> omega) ?_
            refine awp_seqR (fun K hK => ?_)
            simp (maxSteps := 2000000) (disch := omega) [ints, rows, scal, wr64, wr8]
            (repeat' first | refine hK _ ?_ | apply And.intro) <;> clear hK K <;> try first | (show chkD _ _ = true; kernel_rfl) | omega | rfl | (simp; done) | (simp; omega)
            refine awp_ret ?_
            have had4 := had3.put hUz hrel2
            refine ⟨⟨_, _, ⟨false, _, _, S1, ⟨by rw [hS1]; exact had4.num, had4.pre, .inr hS1, had4.agree, fun h => (by cases h), fun _ => by rw [hS1]; exact had3.num.clash hUz hrel2 hfit3⟩, rfl, rfl⟩, resQ_G ?_⟩, by simp⟩
            refine ⟨.inr rfl, _, [(0, some 0), (1, some 34000004), (2, some 34000005), (3, some 3)], (by first | (simp; rfl) | rfl), ?_, ?_, ?_, ?_⟩
            all_goals try simp +contextual (disch := omega) [beq_gt, beq_lt, eq_lt, eq_gt, lt_t, List.getElem?_cons_succ, Option.getD_some, callF, ints, scal, tpO, wkPs_snoc, wkPs_tab, wkT_tab, wk1, rows, bools, dvH, dvB, ofO, paO, stO, rows]
        · refine awp_cond (b := false) (p := 2) (by simp [scal, hdq] <;> omega) ?_
          refine awp_exit ?_
          show awp _ _ _ _
          refine awp_R (fun K hK => ?_)
          simp (maxSteps := 2000000) (disch := omega) [ints, rows, scal, wr64, wr8]
          (repeat' first | refine hK _ ?_ | apply And.intro) <;> clear hK K <;> try first | (show chkD _ _ = true; kernel_rfl) | omega | rfl | (simp; done) | (simp; omega)
          refine ⟨(ii + 1, F3, l3), ⟨by simp only; omega, had3, fun j hj d hd => ?_⟩, by simp only; omega, ?_⟩
          · simp only
            by_cases e : j = ii
            · rw [e, hye]; exact hnow d (by omega)
            · exact hdone3 j (by omega) d hd
          · refine wk_list [(0, some 0), (1, some 1), (2, some 2), (3, some 3)] rfl ?_ ?_ ?_ ?_
            all_goals try simp [ints, dvB, ofO, paO, stO, rows]
end Go.Proofs.Ytgghmjnbkbiffaa.M
