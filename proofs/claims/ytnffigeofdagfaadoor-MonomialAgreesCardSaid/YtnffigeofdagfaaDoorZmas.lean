/-
  Walks in my logic: trailing zeros; sets of places: none, add, has, normal, final.
  Walks in my logic: sets of places: key, after.
  Walks in my logic: the places are completed.
-/
import Derived.Test.YtnffigeofdagfaaDoorZmaq
import Derived.Lib.TrailingZeros
namespace Go.Proofs.YtnffigeofdagfaaDoor.M
open Go.RowKit
set_option linter.unusedVariables false
set_option linter.unusedSimpArgs false

theorem deB_at : ∀ k : Nat, k < 64 → 2 ^ k * 285870213051353865 % 18446744073709551616 / 288230376151711744 < 64 ∧ deB.getD (2 ^ k * 285870213051353865 % 18446744073709551616 / 288230376151711744) 0 = (k : Int) := by decide +kernel
theorem GT_zero : GT[0]? = some (deB.map (T.int .u8)) := rfl
theorem tz_shr (a : Nat) : shrI .u64 (IntKind.u64.wrap ((a : Int) * 285870213051353865)) 58 = ((a * 285870213051353865 % 18446744073709551616 / 288230376151711744 : Nat) : Int) := by
 have e : IntKind.u64.wrap ((a : Int) * 285870213051353865) = ((a * 285870213051353865 % 18446744073709551616 : Nat) : Int) := by
  rw [IntKind.wrap_u64]
  omega
 rw [e]
 have := shrN (kd := .u64) (x := a * 285870213051353865 % 18446744073709551616) (k := 58) (by decide)
 rw [show (2 : Nat) ^ 58 = 288230376151711744 by decide] at this
 exact this
theorem tz_key {x : Nat} (hx : x < 18446744073709551616) (hx0 : x ≠ 0) : ∃ y a i c : Nat, IntKind.u64.wrap (-(x : Int)) = y ∧ andI .u64 (x : Int) (y : Int) = a ∧ shrI .u64 (IntKind.u64.wrap ((a : Int) * 285870213051353865)) 58 = i ∧ i < 64 ∧ deB.getD i 0 = (c : Int) ∧ c < 64 ∧ c = Lib.ctz 64 x := by
 obtain ⟨hlow, hk⟩ := Lib.lowest_bit 64 x hx0 hx
 obtain ⟨c, hc⟩ : ∃ c, c = Lib.ctz 64 x := ⟨_, rfl⟩
 rw [← hc] at hk hlow
 obtain ⟨h1, h2⟩ := deB_at c hk
 generalize 2 ^ c = a at hlow h1 h2
 refine ⟨18446744073709551616 - x, a, a * 285870213051353865 % 18446744073709551616 / 288230376151711744, c, by rw [IntKind.wrap_u64]; omega, ?_, tz_shr a, h1, h2, hk, hc⟩
 rw [andN hx (by omega)]
 congr 1
set_option maxRecDepth 100000 in
set_option maxHeartbeats 4000000 in
theorem tz_fn {x : Nat} (hx : x < 18446744073709551616) (hx0 : x ≠ 0) : FnA Tryd.prog 85 [.t 2 (.int .u64 (x : Nat))] (.t 2 (.int .i64 (Lib.ctz 64 x : Nat))) := by
 obtain ⟨y, a, i, c, k1, k2, k3, k4, k5, k6, hc⟩ := tz_key hx hx0
 rw [← hc]
 have hd : (deB.map (T.int .u8)).drop i = .int .u8 (c : Int) :: (deB.map (T.int .u8)).drop (i + 1) := by
  have hl : i < (deB.map (T.int .u8)).length := by rw [List.length_map]; exact k4
  rw [List.drop_eq_getElem_cons hl]
  congr 1
  rw [List.getElem_map]
  congr 1
  rw [← k5, List.getD_eq_getElem?_getD, List.getElem?_eq_getElem (by simpa using hl)]
  rfl
 have hx1 : ¬ (x : Int) = 0 := by omega
 have hw : IntKind.i64.wrap (c : Int) = c := wr64 _ (by omega) (by omega)
 refine fn_intro Tryd.func85 rfl (by simp [Tryd.f85]) ?_
 rw [show Tryd.f85.ntmps = 14 from rfl, show Tryd.f85.results = #[.tmp 2] from rfl]
 refine awp_seqR fun K hK => ?_
 simp (maxSteps := 2000000) (disch := omega) [ints, rows, scal, wr64, wr8]
 (repeat' first | apply hK | apply And.intro) <;> try first | (show okH _ _ _ = true; kernel_rfl) | omega | rfl | (simp <;> omega)
 refine awp_seq ?_
 refine awp_seqR fun K hK => ?_
 simp (maxSteps := 2000000) (disch := omega) [ints, rows, scal, wr64, wr8]
 (repeat' first | apply hK | apply And.intro) <;> try first | (show okH _ _ _ = true; kernel_rfl) | omega | rfl | (simp <;> omega)
 refine awp_cond (b := false) (p := 2) (by simp [scal, hx1] <;> omega) ?_
 refine awp_skip ?_
 show awp _ _ _ _
 refine awp_seqR fun K hK => ?_
 simp (maxSteps := 2000000) (disch := omega) [ints, rows, scal, wr64, wr8, GT_zero, k1, k2, k3, k4, hd, hw]
 (repeat' first | apply hK | apply And.intro) <;> try first | (show okH _ _ _ = true; kernel_rfl) | omega | rfl | (simp <;> omega)
 refine awp_ret ?_
 refine ⟨⟨.inr rfl, _, [], rfl, trivial, trivial, by simp, ?_⟩, by simp⟩
 simp
def pts (q s : Nat) : List T := tab q fun _ => .int .u64 (s : Int)
def psT (q s : Nat) : T := .sl 1 (pts q s)
@[simp] theorem pts_len (q s : Nat) : (pts q s).length = q := by simp [pts]
theorem pts_one (s : Nat) : pts 1 s = [.int .u64 (s : Int)] := rfl
theorem pts_zero (s : Nat) : pts 0 s = [] := rfl
@[simp] theorem lvs_pts (p q s : Nat) : lvs p (pts q s) = 2 := by
 unfold lvs
 rw [if_pos]
 simp [pts, tab, scal]
theorem rep_pts (q : Nat) : List.replicate q (T.int .u64 0) = pts q 0 := by
 unfold pts tab
 rw [List.map_const', List.length_range]
 rfl
def qOf (n : Nat) : Nat := (n + 63) / 64
theorem qOf_le {n : Nat} (h : n ≤ 64) : qOf n ≤ 1 := by unfold qOf; omega
set_option maxRecDepth 100000 in
set_option maxHeartbeats 4000000 in
theorem pnone_fn {cs r : List T} {ps : List PL} (h1 : cs.drop 1 = .sl 3 (plsC ps) :: r) (hn : ps.length ≤ 64) : FnS Tryd.prog 61 [.pt 0 cs] [] (.own 0 (qOf ps.length)) [.row 73 1 2 (pts (qOf ps.length) 0)] := by
 have hdv := pls_div ps
 obtain ⟨q, hq⟩ : ∃ q, q = qOf ps.length := ⟨_, rfl⟩
 rw [← hq]
 have hq1 : q ≤ 1 := by rw [hq]; exact qOf_le hn
 have hqd : ((ps.length : Int) + 63).tdiv 64 = q := by
  rw [hq]; unfold qOf
  rw [Int.tdiv_eq_ediv_of_nonneg (by omega)]
  omega
 refine fn_intro Tryd.func61 rfl (by simp [Tryd.f61]) ?_
 rw [show Tryd.f61.ntmps = 11 from rfl, show Tryd.f61.results = #[.tmp 2] from rfl]
 refine awp_seqR fun K hK => ?_
 simp (maxSteps := 2000000) (disch := omega) [ints, rows, scal, wr64, wr8]
 (repeat' first | apply hK | apply And.intro) <;> try first | (show okH _ _ _ = true; kernel_rfl) | omega | rfl | (simp <;> omega)
 refine awp_seqR fun K hK => ?_
 simp (maxSteps := 2000000) (disch := omega) [ints, rows, scal, wr64, wr8, h1, hdv, hqd]
 (repeat' first | apply hK | apply And.intro) <;> try first | (show okH _ _ _ = true; kernel_rfl) | omega | rfl | (simp <;> omega)
 refine awp_ret ?_
 refine ⟨⟨.inr rfl, _, [(0, some 8000000)], (by first | rfl | (simp [ints, rows, scal, tpO, rep_pts]; rfl)), ?_, ?_, ?_, ?_⟩, ?_⟩
 all_goals try simp [ints, rows, scal, tpO, rep_pts]
theorem bit_lt {i : Nat} (h : i < 64) : 2 ^ i < 18446744073709551616 := Nat.pow_lt_pow_right (n := 64) (by omega) h
theorem shl_bit {i : Nat} (h : i < 64) : shlI .u64 1 (i : Int) = ((2 ^ i : Nat) : Int) := by
 have := shlN (x := 1) (k := i) (by rw [Nat.one_mul]; exact bit_lt h) (by omega)
 rw [Nat.one_mul] at this
 exact this
theorem div64 {i : Nat} (h : i < 64) : (i : Int).tdiv 64 = 0 ∧ (i : Int).tmod 64 = i := ⟨Int.tdiv_eq_zero_of_lt (by omega) (by omega), Int.tmod_eq_of_lt (by omega) (by omega)⟩
set_option maxRecDepth 100000 in
set_option maxHeartbeats 4000000 in
theorem setAdd_fn {s i : Nat} (hs : s < 18446744073709551616) (hi : i < 64) : FnK Tryd.prog 62 [.own 0 1, .t 2 (.int .i64 i)] [.row 73 1 1 [.int .u64 (s : Nat)]] (.tup []) [.row 73 1 1 [.int .u64 (s ||| 2 ^ i : Nat)]] [0] := by
 obtain ⟨d1, d2⟩ := div64 hi
 have d3 := shl_bit hi
 have d4 := orN hs (bit_lt hi)
 generalize 2 ^ i = b at d3 d4 ⊢
 refine fn_introK 0 1 rfl rfl rfl rfl Tryd.func62 rfl (by simp [Tryd.f62]) ?_
 rw [show Tryd.f62.ntmps = 14 from rfl, show Tryd.f62.results = #[] from rfl]
 refine awp_RD (by kernel_rfl) (fun K hK => ?_)
 simp (maxSteps := 2000000) (disch := omega) [ints, rows, scal, wr64, wr8, d1, d2, d3, d4]
 (repeat' first | apply hK | apply And.intro) <;> try first | (show chkD _ _ = true; kernel_rfl) | (show okH _ _ _ = true; kernel_rfl) | omega | rfl | (simp <;> omega)
 refine ⟨_, [(0, some 0)], (by first | rfl | (simp [ints, rows, scal, tpO]; rfl)), ?_, ?_, ?_, ?_⟩
 all_goals try simp [ints, rows, scal, tpO]
set_option maxRecDepth 100000 in
set_option maxHeartbeats 4000000 in
theorem setHas_fn {s i : Nat} (hs : s < 18446744073709551616) (hi : i < 64) : FnA Tryd.prog 84 [.t 0 (.sl 1 [.int .u64 (s : Nat)]), .t 2 (.int .i64 i)] (.t 2 (.bool (s.testBit i))) := by
 obtain ⟨d1, d2⟩ := div64 hi
 have d3 : shrI .u64 (s : Int) (i : Int) = ((s / 2 ^ i : Nat) : Int) := shrN (by show i ≤ 64; omega)
 have hb : s.testBit i = decide (s / 2 ^ i % 2 = 1) := Nat.testBit_eq_decide_div_mod_eq
 have hlt : s / 2 ^ i < 18446744073709551616 := Nat.lt_of_le_of_lt (Nat.div_le_self _ _) hs
 have d4 : andI .u64 ((s / 2 ^ i : Nat) : Int) 1 = ((s / 2 ^ i % 2 : Nat) : Int) := by
  have := andN hlt (show 1 < 18446744073709551616 by omega)
  rw [Nat.and_one_is_mod] at this
  exact this
 rw [hb]
 generalize s / 2 ^ i = u at d3 d4 ⊢
 obtain ⟨t, ht⟩ : ∃ t, t = u % 2 := ⟨_, rfl⟩
 rw [← ht] at d4 ⊢
 refine fn_intro Tryd.func84 rfl (by simp [Tryd.f84]) ?_
 rw [show Tryd.f84.ntmps = 15 from rfl, show Tryd.f84.results = #[.tmp 4] from rfl]
 refine awp_seqR fun K hK => ?_
 simp (maxSteps := 2000000) (disch := omega) [ints, rows, scal, wr64, wr8]
 (repeat' first | apply hK | apply And.intro) <;> try first | (show okH _ _ _ = true; kernel_rfl) | omega | rfl | (simp <;> omega)
 refine awp_seqR fun K hK => ?_
 simp (maxSteps := 2000000) (disch := omega) [ints, rows, scal, wr64, wr8, d1, d2, d3, d4]
 (repeat' first | apply hK | apply And.intro) <;> try first | (show okH _ _ _ = true; kernel_rfl) | omega | rfl | (simp <;> omega)
 refine awp_ret ?_
 refine ⟨⟨.inr rfl, _, [], rfl, trivial, trivial, by simp, ?_⟩, by simp⟩
 simp
 rw [Bool.eq_iff_iff]
 simp
 omega
def nrmP (ev : Int) (s : Nat) : Nat := if 0 ≤ ev ∧ s.testBit ev.toNat = true then 2 ^ ev.toNat else s
set_option maxRecDepth 100000 in
set_option maxHeartbeats 4000000 in
theorem normal_fn {cs r : List T} {ev : Int} {q s : Nat} (h3 : cs.drop 3 = .int .i64 ev :: r) (hq : q ≤ 1) (hs : s < 18446744073709551616) (he : 0 ≤ ev → ev < 64 ∧ q = 1) : FnK Tryd.prog 63 [.pt 0 cs, .own 0 q] [.row 73 1 1 (pts q s)] (.own 0 q) [.row 73 1 1 (pts q (nrmP ev s))] [0] := by
 refine fn_introK 0 q rfl rfl (by simp) (by simp) Tryd.func63 rfl (by simp [Tryd.f63]) ?_
 rw [show Tryd.f63.ntmps = 26 from rfl, show Tryd.f63.results = #[.tmp 4] from rfl]
 refine awp_seqR fun K hK => ?_
 simp (maxSteps := 2000000) (disch := omega) [ints, rows, scal, wr64, wr8]
 (repeat' first | apply hK | apply And.intro) <;> try first | (show okH _ _ _ = true; kernel_rfl) | omega | rfl | (simp <;> omega)
 refine awp_seq ?_
 by_cases h0 : 0 ≤ ev
 ·obtain ⟨e1, rfl⟩ := he h0
  obtain ⟨e, rfl⟩ : ∃ e : Nat, ev = (e : Int) := ⟨ev.toNat, by omega⟩
  have e2 : e < 64 := by omega
  have hnr : nrmP (e : Int) s = if s.testBit e = true then 2 ^ e else s := by simp [nrmP]
  refine awp_seqR fun K hK => ?_
  simp (maxSteps := 2000000) (disch := omega) [ints, rows, scal, wr64, wr8, h3]
  (repeat' apply And.intro)
  all_goals (try omega)
  refine call_rule (caps := []) (setHas_fn hs e2) [] [] 2 (by simp [scal, rows, ints, pts_one]) rfl rfl rfl (by kernel_rfl) (by simp) ?_ trivial trivial rfl trivial trivial (by simp) ?_
  ·simp [scal, rows, ints, pts_one]
  simp (maxSteps := 2000000) (disch := omega) [ints, rows, scal, wr64, wr8]
  (repeat' first | apply hK | apply And.intro) <;> try first | (show okH _ _ _ = true; kernel_rfl) | omega | rfl | (simp <;> omega)
  by_cases hb : s.testBit e = true
  ·refine awp_cond (b := true) (p := 2) (by simp [scal, hb] <;> omega) ?_
   rw [if_pos hb] at hnr
   refine awp_seqR fun K hK => ?_
   simp (maxSteps := 2000000) (disch := omega) [ints, rows, scal, wr64, wr8, pts_one]
   (repeat' first | apply hK | apply And.intro) <;> try first | (show okH _ _ _ = true; kernel_rfl) | omega | rfl | (simp <;> omega)
   refine awp_R fun K hK => ?_
   simp (maxSteps := 2000000) (disch := omega) [ints, rows, scal, wr64, wr8, h3]
   (repeat' apply And.intro)
   all_goals (try omega)
   refine call_ruleK (caps := []) (setAdd_fn (s := 0) (by omega) e2) [0] [0] 1 rfl rfl rfl rfl (by kernel_rfl) (by simp) ?_ ?_ (by simp) rfl (by simp) ⟨.inr (.inr ⟨rfl, by simp, by simp⟩), trivial⟩ (by simp [pts_one]) ?_
   ·simp [scal, rows, ints, pts_one]
   ·simp [scal, rows, ints, pts_one]
   simp (maxSteps := 2000000) (disch := omega) [ints, rows, scal, wr64, wr8]
   (repeat' first | apply hK | apply And.intro) <;> try first | (show okH _ _ _ = true; kernel_rfl) | omega | rfl | (simp <;> omega)
   show awp _ _ _ _
   refine awp_seqR fun K hK => ?_
   simp (maxSteps := 2000000) (disch := omega) [ints, rows, scal, wr64, wr8]
   (repeat' first | apply hK | apply And.intro) <;> try first | (show okH _ _ _ = true; kernel_rfl) | omega | rfl | (simp <;> omega)
   refine awp_ret ?_
   refine ⟨⟨.inr rfl, _, [(0, some 0)], (by first | rfl | (simp [ints, rows, scal, tpO, hnr, pts_one]; rfl)), ?_, ?_, ?_, ?_⟩, ?_⟩
   all_goals try simp [ints, rows, scal, tpO, hnr, pts_one]
  ·refine awp_cond (b := false) (p := 2) (by simp [scal, hb] <;> omega) ?_
   rw [if_neg hb] at hnr
   refine awp_skip ?_
   show awp _ _ _ _
   refine awp_seqR fun K hK => ?_
   simp (maxSteps := 2000000) (disch := omega) [ints, rows, scal, wr64, wr8]
   (repeat' first | apply hK | apply And.intro) <;> try first | (show okH _ _ _ = true; kernel_rfl) | omega | rfl | (simp <;> omega)
   refine awp_ret ?_
   refine ⟨⟨.inr rfl, _, [(0, some 0)], (by first | rfl | (simp [ints, rows, scal, tpO, hnr]; rfl)), ?_, ?_, ?_, ?_⟩, ?_⟩
   all_goals try simp [ints, rows, scal, tpO, hnr]
 ·have hnr : nrmP ev s = s := by simp [nrmP, h0]
  refine awp_seqR fun K hK => ?_
  simp (maxSteps := 2000000) (disch := omega) [ints, rows, scal, wr64, wr8, h3, h0]
  (repeat' first | apply hK | apply And.intro) <;> try first | (show okH _ _ _ = true; kernel_rfl) | omega | rfl | (simp <;> omega)
  refine awp_cond (b := false) (p := 2) (by simp [scal] <;> omega) ?_
  refine awp_skip ?_
  show awp _ _ _ _
  refine awp_seqR fun K hK => ?_
  simp (maxSteps := 2000000) (disch := omega) [ints, rows, scal, wr64, wr8]
  (repeat' first | apply hK | apply And.intro) <;> try first | (show okH _ _ _ = true; kernel_rfl) | omega | rfl | (simp <;> omega)
  refine awp_ret ?_
  refine ⟨⟨.inr rfl, _, [(0, some 0)], (by first | rfl | (simp [ints, rows, scal, tpO, hnr]; rfl)), ?_, ?_, ?_, ?_⟩, ?_⟩
  all_goals try simp [ints, rows, scal, tpO, hnr]
set_option maxRecDepth 100000 in
set_option maxHeartbeats 4000000 in
theorem final_fn {cs r : List T} {q s en : Nat} (h4 : cs.drop 4 = psT q en :: r) (hq : q ≤ 1) (hs : s < 18446744073709551616) (he : en < 18446744073709551616) (h0 : q = 0 → s = 0) : FnA Tryd.prog 65 [.pt 0 cs, .t 0 (psT q s)] (.t 2 (.bool (decide (s &&& en ≠ 0)))) := by
 refine fn_intro Tryd.func65 rfl (by simp [Tryd.f65]) ?_
 rw [show Tryd.f65.ntmps = 25 from rfl, show Tryd.f65.results = #[.tmp 4] from rfl]
 refine awp_seqR fun K hK => ?_
 simp (maxSteps := 2000000) (disch := omega) [ints, rows, scal, wr64, wr8]
 (repeat' first | apply hK | apply And.intro) <;> try first | (show okH _ _ _ = true; kernel_rfl) | omega | rfl | (simp <;> omega)
 refine awp_seq ?_
 refine awp_seqR fun K hK => ?_
 simp (maxSteps := 2000000) (disch := omega) [ints, rows, scal, wr64, wr8, psT]
 (repeat' first | apply hK | apply And.intro) <;> try first | (show okH _ _ _ = true; kernel_rfl) | omega | rfl | (simp <;> omega)
 refine awp_block ?_
 refine awp_loop (fun y : Nat => mkS [(0, .pt 0 cs), (7, .t 0 (psT q s)), (8, .t 2 (.int .i64 q)), (9, .t 2 (.int .i64 y))] [] 0 25 [.any, .any]) (fun y => y ≤ q ∧ (0 < y → s &&& en = 0)) (fun y => q - y) ?_ ?_
 ·refine ⟨0, ⟨by omega, by omega⟩, ?_⟩
  refine wk_list [] rfl ?_ ?_ ?_ ?_
  all_goals try simp [ints, psT]
 rintro y ⟨hy, hz⟩
 refine awp_seqR fun K hK => ?_
 simp (maxSteps := 2000000) (disch := omega) [ints, rows, scal, wr64, wr8]
 (repeat' first | apply hK | apply And.intro) <;> try first | (show okH _ _ _ = true; kernel_rfl) | omega | rfl | (simp <;> omega)
 refine awp_seq ?_
 by_cases hc : y < q
 ·obtain rfl : q = 1 := by omega
  obtain rfl : y = 0 := by omega
  refine awp_cond (b := true) (p := 2) (by simp [scal] <;> omega) ?_
  refine awp_skip ?_
  show awp _ _ _ _
  refine awp_seq ?_
  refine awp_block ?_
  refine awp_seqR fun K hK => ?_
  simp (maxSteps := 2000000) (disch := omega) [ints, rows, scal, wr64, wr8, psT, pts_one]
  (repeat' first | apply hK | apply And.intro) <;> try first | (show okH _ _ _ = true; kernel_rfl) | omega | rfl | (simp <;> omega)
  have hand := andN hs he
  refine awp_seqR fun K hK => ?_
  simp (maxSteps := 2000000) (disch := omega) [ints, rows, scal, wr64, wr8, h4, psT, pts_one, hand]
  (repeat' first | apply hK | apply And.intro) <;> try first | (show okH _ _ _ = true; kernel_rfl) | omega | rfl | (simp <;> omega)
  by_cases hb : s &&& en = 0
  ·refine awp_cond (b := false) (p := 2) (by simp [scal, hb] <;> omega) ?_
   refine awp_skip ?_
   show awp _ _ _ _
   refine awp_R fun K hK => ?_
   simp (maxSteps := 2000000) (disch := omega) [ints, rows, scal, wr64, wr8]
   (repeat' first | apply hK | apply And.intro) <;> try first | (show okH _ _ _ = true; kernel_rfl) | omega | rfl | (simp <;> omega)
   refine ⟨1, ⟨by omega, fun _ => hb⟩, by omega, ?_⟩
   refine wk_list [] rfl ?_ ?_ ?_ ?_
   all_goals try simp [ints, psT, pts_one]
  ·refine awp_cond (b := true) (p := 2) (by simp [scal, hb] <;> omega) ?_
   refine awp_seqR fun K hK => ?_
   simp (maxSteps := 2000000) (disch := omega) [ints, rows, scal, wr64, wr8]
   (repeat' first | apply hK | apply And.intro) <;> try first | (show okH _ _ _ = true; kernel_rfl) | omega | rfl | (simp <;> omega)
   refine awp_ret ?_
   refine ⟨⟨.inr rfl, _, [], rfl, trivial, trivial, by simp [hb, psT], ?_⟩, by simp [hb, psT]⟩
   simp [hb, psT]
 ·have hb : s &&& en = 0 := by
   by_cases e : q = 0
   ·rw [h0 e]; simp
   ·exact hz (by omega)
  refine awp_cond (b := false) (p := 2) (by simp [scal, hc] <;> omega) ?_
  refine awp_exit ?_
  show awp _ _ _ _
  refine awp_seqR fun K hK => ?_
  simp (maxSteps := 2000000) (disch := omega) [ints, rows, scal, wr64, wr8]
  (repeat' first | apply hK | apply And.intro) <;> try first | (show okH _ _ _ = true; kernel_rfl) | omega | rfl | (simp <;> omega)
  refine awp_ret ?_
  refine ⟨⟨.inr rfl, _, [], rfl, trivial, trivial, by simp [hb, psT], ?_⟩, by simp [hb, psT]⟩
  simp [hb, psT]

set_option linter.unusedSimpArgs false

def byN (s k : Nat) : Nat := s / 2 ^ (8 * k) % 256
def keyC (s n : Nat) : List T := tab n fun k => .int .u8 (byN s k : Nat)
def keyB (q s : Nat) : ByteArray := bytesT (keyC s (8 * q))
theorem keyB_inj {q s t : Nat} (hq : q ≤ 1) (hs : s < 18446744073709551616) (ht : t < 18446744073709551616) (h0 : q = 0 → s = 0) (h1 : q = 0 → t = 0) (h : keyB q s = keyB q t) : s = t := by
 by_cases e : q = 0
 ·rw [h0 e, h1 e]
 obtain rfl : q = 1 := by omega
 unfold keyB bytesT at h
 rw [fold_push, fold_push] at h
 have h2 := congrArg (fun b : ByteArray => b.data.toList) h
 simp only [List.toList_toArray, Array.toList_append] at h2
 have h3 : (keyC s (8 * 1)).map (fun c => UInt8.ofNat (u8n c).toNat) = (keyC t (8 * 1)).map (fun c => UInt8.ofNat (u8n c).toNat) := by simpa using h2
 have hk : ∀ k, k < 8 → byN s k = byN t k := fun k hk => by
  have h4 := congrArg (fun l : List UInt8 => l[k]?) h3
  simp only [keyC, List.getElem?_map, tab_get _ hk, Option.map_some, Option.some.injEq, u8n, Int.toNat_natCast] at h4
  have h5 := congrArg UInt8.toNat h4
  simp only [UInt8.toNat_ofNat'] at h5
  have b1 : byN s k < 256 := Nat.mod_lt _ (by omega)
  have b2 : byN t k < 256 := Nat.mod_lt _ (by omega)
  omega
 have k0 := hk 0 (by omega)
 have k1 := hk 1 (by omega)
 have k2 := hk 2 (by omega)
 have k3 := hk 3 (by omega)
 have k4 := hk 4 (by omega)
 have k5 := hk 5 (by omega)
 have k6 := hk 6 (by omega)
 have k7 := hk 7 (by omega)
 simp only [byN, Nat.reducePow, Nat.reduceMul] at k0 k1 k2 k3 k4 k5 k6 k7
 omega
theorem keyC_all (s n : Nat) : (keyC s n).all isU8 = true := by
 simp [keyC, tab, isU8]
set_option maxRecDepth 100000 in
set_option maxHeartbeats 4000000 in
theorem key_fn {q s : Nat} (hq : q ≤ 1) (hs : s < 18446744073709551616) : FnA Tryd.prog 64 [.t 0 (psT q s)] (.t 2 (.str (keyB q s))) := by
 have hall := keyC_all s (8 * q)
 have hw8 : IntKind.i64.wrap (8 * (q : Int)) = 8 * (q : Int) := wr64 _ (by omega) (by omega)
 refine fn_intro Tryd.func64 rfl (by simp [Tryd.f64]) ?_
 rw [show Tryd.f64.ntmps = 31 from rfl, show Tryd.f64.results = #[.tmp 2] from rfl]
 refine awp_seqR fun K hK => ?_
 simp (maxSteps := 2000000) (disch := omega) [ints, rows, scal, wr64, wr8]
 (repeat' first | apply hK | apply And.intro) <;> try first | (show okH _ _ _ = true; kernel_rfl) | omega | rfl | (simp <;> omega)
 refine awp_seqR fun K hK => ?_
 simp (maxSteps := 2000000) (disch := omega) [ints, rows, scal, wr64, wr8, psT, hw8]
 (repeat' first | apply hK | apply And.intro) <;> try first | (show okH _ _ _ = true; kernel_rfl) | omega | rfl | (simp <;> omega)
 refine awp_seq ?_
 refine awp_seqR fun K hK => ?_
 simp (maxSteps := 2000000) (disch := omega) [ints, rows, scal, wr64, wr8, psT]
 (repeat' first | apply hK | apply And.intro) <;> try first | (show okH _ _ _ = true; kernel_rfl) | omega | rfl | (simp <;> omega)
 refine awp_block ?_
 refine awp_loop (fun y : Nat => mkS [(3, .own 0 (8 * y)), (11, .t 0 (psT q s)), (12, .t 2 (.int .i64 q)), (13, .t 2 (.int .i64 y))] [(0, .row 5 1 2 (keyC s (8 * y)))] 1 31 [.any]) (fun y => y ≤ q) (fun y => q - y) ?_ ?_
 ·refine ⟨0, by omega, ?_⟩
  refine wk_list [(0, some 4000000)] rfl ?_ ?_ ?_ ?_
  all_goals try simp [ints, psT, keyC]
 intro y hy
 refine awp_seqR fun K hK => ?_
 simp (maxSteps := 2000000) (disch := omega) [ints, rows, scal, wr64, wr8]
 (repeat' first | apply hK | apply And.intro) <;> try first | (show okH _ _ _ = true; kernel_rfl) | omega | rfl | (simp <;> omega)
 refine awp_seq ?_
 by_cases hc : y < q
 ·obtain rfl : q = 1 := by omega
  obtain rfl : y = 0 := by omega
  refine awp_cond (b := true) (p := 2) (by simp [scal] <;> omega) ?_
  refine awp_skip ?_
  show awp _ _ _ _
  refine awp_seq ?_
  refine awp_block ?_
  refine awp_seqR fun K hK => ?_
  simp (maxSteps := 2000000) (disch := omega) [ints, rows, scal, wr64, wr8, psT, pts_one]
  (repeat' first | apply hK | apply And.intro) <;> try first | (show okH _ _ _ = true; kernel_rfl) | omega | rfl | (simp <;> omega)
  refine awp_seqR fun K hK => ?_
  simp (maxSteps := 2000000) (disch := omega) [ints, rows, scal, wr64, wr8]
  (repeat' first | apply hK | apply And.intro) <;> try first | (show okH _ _ _ = true; kernel_rfl) | omega | rfl | (simp <;> omega)
  refine awp_block ?_
  refine awp_loop (fun k : Nat => mkS [(3, .own 0 k), (5, .t 2 (.int .u64 (s : Nat))), (6, .t 2 (.int .i64 (8 * k : Nat))), (11, .t 0 (psT 1 s)), (12, .t 2 (.int .i64 1)), (13, .t 2 (.int .i64 0))] [(0, .row 5 1 2 (keyC s k))] 1 31 [.any]) (fun k => k ≤ 8) (fun k => 8 - k) ?_ ?_
  ·refine ⟨0, by omega, ?_⟩
   refine wk_list [(0, some 0)] rfl ?_ ?_ ?_ ?_
   all_goals try simp [ints, psT, keyC, pts_one]
  intro k hk
  refine awp_seq ?_
  refine awp_seqR fun K hK => ?_
  simp (maxSteps := 2000000) (disch := omega) [ints, rows, scal, wr64, wr8]
  (repeat' first | apply hK | apply And.intro) <;> try first | (show okH _ _ _ = true; kernel_rfl) | omega | rfl | (simp <;> omega)
  by_cases hc2 : k < 8
  ·refine awp_cond (b := true) (p := 2) (by simp [scal, hc2] <;> omega) ?_
   obtain ⟨u, hu⟩ : ∃ u : Nat, u = 8 * k := ⟨_, rfl⟩
   have d1 : shrI .u64 (s : Int) (8 * (k : Int)) = ((s / 2 ^ u : Nat) : Int) := by
    rw [show 8 * (k : Int) = (u : Int) by omega]
    exact shrN (by show u ≤ 64; omega)
   obtain ⟨x, hx⟩ : ∃ x : Nat, x = s / 2 ^ u := ⟨_, rfl⟩
   rw [← hx] at d1
   have d2 : IntKind.u8.wrap (x : Int) = (byN s k : Nat) := by
    rw [IntKind.wrap_u8]; unfold byN; rw [← hu, ← hx]; omega
   have hkc : keyC s (k + 1) = keyC s k ++ [.int .u8 (byN s k : Nat)] := by unfold keyC; rw [tab_succ]
   have hkl : (keyC s k).length = k := by simp [keyC]
   refine awp_skip ?_
   show awp _ _ _ _
   refine awp_seq ?_
   refine awp_block ?_
   refine awp_R fun K hK => ?_
   simp (maxSteps := 2000000) (disch := omega) [ints, rows, scal, wr64, wr8, d1, d2, hkl]
   (repeat' first | apply hK | apply And.intro) <;> try first | (show okH _ _ _ = true; kernel_rfl) | omega | rfl | (simp <;> omega)
   show awp _ _ _ _
   refine awp_R fun K hK => ?_
   simp (maxSteps := 2000000) (disch := omega) [ints, rows, scal, wr64, wr8]
   (repeat' first | apply hK | apply And.intro) <;> try first | (show okH _ _ _ = true; kernel_rfl) | omega | rfl | (simp <;> omega)
   refine ⟨k + 1, by omega, by omega, ?_⟩
   refine wk_list [(0, some 0)] rfl ?_ ?_ ?_ ?_
   all_goals try simp [ints, hkc]
   all_goals omega
  ·obtain rfl : k = 8 := by omega
   refine awp_cond (b := false) (p := 2) (by simp [scal] <;> omega) ?_
   refine awp_exit ?_
   show awp _ _ _ _
   refine awp_R fun K hK => ?_
   simp (maxSteps := 2000000) (disch := omega) [ints, rows, scal, wr64, wr8]
   (repeat' first | apply hK | apply And.intro) <;> try first | (show okH _ _ _ = true; kernel_rfl) | omega | rfl | (simp <;> omega)
   refine ⟨1, by omega, by omega, ?_⟩
   refine wk_list [(0, some 0)] rfl ?_ ?_ ?_ ?_
   all_goals try simp [ints, psT]
 ·obtain rfl : y = q := by omega
  refine awp_cond (b := false) (p := 2) (by simp [scal, hc] <;> omega) ?_
  refine awp_exit ?_
  show awp _ _ _ _
  have hkl : (keyC s (8 * y)).length = 8 * y := by simp [keyC]
  refine awp_seqR fun K hK => ?_
  simp (maxSteps := 2000000) (disch := omega) [ints, rows, scal, wr64, wr8, hkl, hall]
  (repeat' first | apply hK | apply And.intro) <;> try first | (show okH _ _ _ = true; kernel_rfl) | omega | rfl | (simp <;> omega)
  refine awp_ret ?_
  refine ⟨⟨.inr rfl, _, [], rfl, trivial, trivial, by simp [keyB, psT], ?_⟩, by simp [keyB, psT]⟩
  simp [keyB, psT]
def AftR (st sp : Nat) (nx : Nat → Nat) (s' : Nat) : Prop := ∀ j, s'.testBit j = true ↔ st.testBit j = true ∨ ∃ i, sp.testBit i = true ∧ nx i = j
theorem clear_low {x : Nat} (h0 : x ≠ 0) (h : x < 18446744073709551616) : ∃ c, c = Lib.ctz 64 x ∧ c < 64 ∧ x.testBit c = true ∧ (∀ j, (x &&& (x - 1)).testBit j = (x.testBit j && decide (j ≠ c))) ∧ x &&& (x - 1) < x := by
 obtain ⟨m, hm, hk⟩ := Lib.ctzFrom_spec 64 x (by omega) h
 have e : Lib.ctz 64 x = Lib.ctzFrom 64 x := by simp [Lib.ctz, h0]
 rw [e]
 refine ⟨_, rfl, hk, ?_⟩
 generalize Lib.ctzFrom 64 x = c at *
 have hx : ∀ j, x.testBit j = (decide (c ≤ j) && (2 * m + 1).testBit (j - c)) := fun j => by
  rw [hm, Nat.mul_comm, Nat.testBit_mul_two_pow]
 have hp : 0 < 2 ^ c := Nat.pow_pos (by omega)
 have e1 : x - 1 = 2 ^ c * (2 * m) + (2 ^ c - 1) := by rw [hm, Nat.mul_add]; omega
 have hx1 : ∀ j, (x - 1).testBit j = if j < c then true else (2 * m).testBit (j - c) := fun j => by
  rw [e1, Nat.testBit_two_pow_mul_add _ (by omega)]
  by_cases hj : j < c
  ·simp [hj, Nat.testBit_two_pow_sub_one]
  ·simp [hj]
 refine ⟨by rw [hx]; simp [Nat.testBit_zero], fun j => ?_, ?_⟩
 ·rw [Nat.testBit_and, hx, hx1]
  by_cases hj : j < c
  ·simp [hj, show ¬ c ≤ j by omega]
  ·rw [if_neg hj]
   by_cases hjc : j = c
   ·subst hjc; simp [Nat.testBit_zero]
   ·obtain ⟨d, rfl⟩ : ∃ d, j = c + (d + 1) := ⟨j - c - 1, by omega⟩
    rw [show c + (d + 1) - c = d + 1 by omega, Nat.testBit_succ, Nat.testBit_succ, show (2 * m + 1) / 2 = m by omega, show 2 * m / 2 = m by omega]
    simp
 ·exact Nat.lt_of_le_of_lt Nat.and_le_right (by omega)
set_option maxRecDepth 100000 in
set_option maxHeartbeats 4000000 in
theorem after_fn {cs r1 r3 r5 r6 : List T} {ps : List PL} {ev : Int} {s sa sb a : Nat} {nx : Nat → Nat} (hn : ps.length ≤ 60) (h1 : cs.drop 1 = .sl 3 (plsC ps) :: r1) (h3 : cs.drop 3 = .int .i64 ev :: r3) (h5 : cs.drop (5 + a) = psT (qOf ps.length) sa :: r5) (h6 : cs.drop (11 + a) = psT (qOf ps.length) sb :: r6) (ha : a < 6)
  (hs : s < 2 ^ ps.length) (hsa : sa < 2 ^ ps.length) (hsb : sb < 2 ^ ps.length) (he : 0 ≤ ev → ev < ps.length) (hnx : ∀ i, sb.testBit i = true → ∃ h : i < ps.length, ps[i].2.2 = (nx i : Int) ∧ nx i < ps.length) :
  ∃ res H', (∃ s', AftR (s &&& sa) (s &&& sb) nx s' ∧ s' < 2 ^ 60 ∧ res = .own 0 (qOf ps.length) ∧ H' = [.row 73 1 2 (pts (qOf ps.length) (nrmP ev s'))]) ∧ FnS Tryd.prog 66 [.pt 0 cs, .t 0 (psT (qOf ps.length) s), .t 2 (.int .i64 a)] [] res H' := by
 have h60 : (2 : Nat) ^ ps.length ≤ 2 ^ 60 := Nat.pow_le_pow_right (by omega) hn
 have hq1 := qOf_le (show ps.length ≤ 64 by omega)
 have hq0 : qOf ps.length = 0 → s = 0 := fun h => by
  have : ps.length = 0 := by unfold qOf at h; omega
  rw [this] at hs
  simpa using hs
 have heq : 0 ≤ ev → ev < 64 ∧ qOf ps.length = 1 := fun h => by
  have := he h
  refine ⟨by omega, ?_⟩
  unfold qOf; omega
 have hN := pnone_fn h1 (by omega)
 have hN2 := fun s' (h : s' < 18446744073709551616) => normal_fn (s := s') h3 hq1 h heq
 generalize qOf ps.length = q at *
 refine fn_introGE Tryd.func66 rfl (by simp [Tryd.f66]) ?_
 rw [show Tryd.f66.ntmps = 72 from rfl, show Tryd.f66.results = #[.tmp 6] from rfl]
 refine awp_seqR fun K hK => ?_
 simp (maxSteps := 2000000) (disch := omega) [ints, rows, scal, wr64, wr8]
 (repeat' first | apply hK | apply And.intro) <;> try first | (show okH _ _ _ = true; kernel_rfl) | omega | rfl | (simp <;> omega)
 refine awp_seqR fun K hK => ?_
 simp (maxSteps := 2000000) (disch := omega) [ints, rows, scal, wr64, wr8]
 (repeat' apply And.intro)
 all_goals (try omega)
 refine call_rule (caps := []) (hN) [] [2000000] 2 rfl rfl rfl rfl (by kernel_rfl) (by simp) ?_ ?_ (by simp) rfl (by simp) ⟨.inl ⟨by omega, by omega⟩, trivial⟩ (by simp) ?_
 ·simp [scal, rows, ints]
 ·trivial
 simp (maxSteps := 2000000) (disch := omega) [ints, rows, scal, wr64, wr8]
 (repeat' first | apply hK | apply And.intro) <;> try first | (show okH _ _ _ = true; kernel_rfl) | omega | rfl | (simp <;> omega)
 refine awp_seq ?_
 refine awp_seqR fun K hK => ?_
 simp (maxSteps := 2000000) (disch := omega) [ints, rows, scal, wr64, wr8, psT]
 (repeat' first | apply hK | apply And.intro) <;> try first | (show okH _ _ _ = true; kernel_rfl) | omega | rfl | (simp <;> omega)
 refine awp_block ?_
 refine awp_loop (fun y : Nat × Nat => mkS [(0, .pt 0 cs), (2, .t 2 (.int .i64 a)), (7, .own 0 q), (13, .t 0 (psT q s)), (14, .t 2 (.int .i64 q)), (15, .t 2 (.int .i64 y.1))] [(0, .row 73 1 2 (pts q y.2))] 1 72 [.any, .any, .any]) (fun y => y.1 ≤ q ∧ (y.1 = 0 → y.2 = 0) ∧ (0 < y.1 → AftR (s &&& sa) (s &&& sb) nx y.2) ∧ y.2 < 2 ^ 60) (fun y => q - y.1) ?_ ?_
 ·refine ⟨(0, 0), ⟨by simp, by simp, by simp, by simp⟩, ?_⟩
  refine wk_list [(0, some 2000000)] rfl ?_ ?_ ?_ ?_
  all_goals try simp [ints, psT]
 rintro ⟨y, r⟩ ⟨hy, hy0, hyr, hr60⟩
 simp only at hy hy0 hyr hr60
 refine awp_seqR fun K hK => ?_
 simp (maxSteps := 2000000) (disch := omega) [ints, rows, scal, wr64, wr8]
 (repeat' first | apply hK | apply And.intro) <;> try first | (show okH _ _ _ = true; kernel_rfl) | omega | rfl | (simp <;> omega)
 refine awp_seq ?_
 by_cases hc : y < q
 ·obtain rfl : q = 1 := by omega
  obtain rfl : y = 0 := by omega
  obtain rfl := hy0 rfl
  have k1 := andN (x := s) (y := sa) (by omega) (by omega)
  have k2 := andN (x := s) (y := sb) (by omega) (by omega)
  have k3 : orI .u64 0 ((s &&& sa : Nat) : Int) = ((s &&& sa : Nat) : Int) := by
   have := orN (x := 0) (y := s &&& sa) (by omega) (Nat.lt_of_le_of_lt Nat.and_le_left (by omega))
   rw [Nat.zero_or] at this
   exact this
  have hxa : s &&& sa < 2 ^ 60 := Nat.lt_of_le_of_lt Nat.and_le_left (by omega)
  have hxb : s &&& sb < 2 ^ 60 := Nat.lt_of_le_of_lt Nat.and_le_left (by omega)
  have hxbb : ∀ i, (s &&& sb).testBit i = true → sb.testBit i = true := fun i h => by rw [Nat.testBit_and, Bool.and_eq_true] at h; exact h.2
  generalize hga : s &&& sa = xa at *
  generalize hgb : s &&& sb = xb at *
  refine awp_cond (b := true) (p := 2) (by simp [scal] <;> omega) ?_
  refine awp_skip ?_
  show awp _ _ _ _
  refine awp_seq ?_
  refine awp_block ?_
  refine awp_seqR fun K hK => ?_
  simp (maxSteps := 2000000) (disch := omega) [ints, rows, scal, wr64, wr8, psT, pts_one]
  (repeat' first | apply hK | apply And.intro) <;> try first | (show okH _ _ _ = true; kernel_rfl) | omega | rfl | (simp <;> omega)
  refine awp_seqD (by kernel_rfl) (fun K hK => ?_)
  simp (maxSteps := 2000000) (disch := omega) [ints, rows, scal, wr64, wr8, h5, psT, pts_one, ha, k1, k3]
  (repeat' first | apply hK | apply And.intro) <;> try first | (show chkD _ _ = true; kernel_rfl) | (show okH _ _ _ = true; kernel_rfl) | omega | rfl | (simp <;> omega)
  refine awp_seqR fun K hK => ?_
  simp (maxSteps := 2000000) (disch := omega) [ints, rows, scal, wr64, wr8, h6, psT, pts_one, ha, k2]
  (repeat' first | apply hK | apply And.intro) <;> try first | (show okH _ _ _ = true; kernel_rfl) | omega | rfl | (simp <;> omega)
  refine awp_block ?_
  refine awp_loop (fun y : Nat × Nat => mkS [(0, .pt 0 cs), (2, .t 2 (.int .i64 a)), (7, .own 0 1), (8, .t 2 (.int .i64 0)), (10, .t 2 (.int .u64 (y.1 : Nat))), (13, .t 0 (psT 1 s)), (14, .t 2 (.int .i64 1)), (15, .t 2 (.int .i64 0))] [(0, .row 73 1 2 (pts 1 y.2))] 1 72 [.any, .any, .any]) (fun y => y.1 < 2 ^ 60 ∧ y.2 < 2 ^ 60 ∧ (∀ i, y.1.testBit i = true → xb.testBit i = true) ∧ ∀ j, y.2.testBit j = true ↔ xa.testBit j = true ∨ ∃ i, xb.testBit i = true ∧ y.1.testBit i = false ∧ nx i = j) (fun y => y.1) ?_ ?_
  ·refine ⟨(xb, xa), ⟨hxb, hxa, fun _ h => h, fun j => ⟨.inl, fun h => ?_⟩⟩, ?_⟩
   ·rcases h with h | ⟨i, h1, h2, -⟩
    ·exact h
    ·simp only at h2; rw [h1] at h2; cases h2
   ·refine wk_list [(0, some 0)] rfl ?_ ?_ ?_ ?_
    all_goals try simp [ints, psT, pts_one]
  rintro ⟨mv, r⟩ ⟨hmv, hr, hsub, hspec⟩
  simp only at hmv hr hsub hspec
  refine awp_seq ?_
  refine awp_seqR fun K hK => ?_
  simp (maxSteps := 2000000) (disch := omega) [ints, rows, scal, wr64, wr8]
  (repeat' first | apply hK | apply And.intro) <;> try first | (show okH _ _ _ = true; kernel_rfl) | omega | rfl | (simp <;> omega)
  by_cases hm0 : mv = 0
  ·subst hm0
   refine awp_cond (b := false) (p := 2) (by simp [scal] <;> omega) ?_
   refine awp_exit ?_
   show awp _ _ _ _
   refine awp_R fun K hK => ?_
   simp (maxSteps := 2000000) (disch := omega) [ints, rows, scal, wr64, wr8]
   (repeat' first | apply hK | apply And.intro) <;> try first | (show okH _ _ _ = true; kernel_rfl) | omega | rfl | (simp <;> omega)
   refine ⟨(1, r), ⟨by simp, by simp, fun _ j => ?_, hr⟩, by simp, ?_⟩
   ·rw [hspec j]; simp [hga, hgb]
   ·refine wk_list [(0, some 0)] rfl ?_ ?_ ?_ ?_
    all_goals try simp [ints, psT, pts_one]
  ·obtain ⟨c, hc1, hc2, hc3, hc4, hc5⟩ := clear_low hm0 (by omega)
   obtain ⟨hi, hi2, hi3⟩ := hnx c (hxbb c (hsub c hc3))
   have hat := pls_at hi
   have hin := pls_in hi
   have hT := tz_fn (x := mv) (by omega) hm0
   rw [← hc1] at hT
   have hA := setAdd_fn (s := r) (i := nx c) (by omega) (by omega)
   have k4 : IntKind.u64.wrap ((mv : Int) - 1) = ((mv - 1 : Nat) : Int) := by rw [IntKind.wrap_u64]; omega
   have k5 := andN (x := mv) (y := mv - 1) (by omega) (by omega)
   have hm0' : ¬ (mv : Int) = 0 := by omega
   refine awp_cond (b := true) (p := 2) (by simp [scal, hm0] <;> omega) ?_
   refine awp_skip ?_
   show awp _ _ _ _
   refine awp_seq ?_
   refine awp_block ?_
   refine awp_RD (by kernel_rfl) (fun K hK => ?_)
   simp (maxSteps := 2000000) (disch := omega) [ints, rows, scal, wr64, wr8, h1]
   (repeat' apply And.intro)
   all_goals (try omega)
   refine call_ruleD (caps := []) (hT) [] [] 2 rfl rfl rfl rfl (by kernel_rfl) (by simp) ?_ trivial trivial rfl trivial trivial (by simp) ?_
   ·simp [scal, rows, ints]
   simp (maxSteps := 2000000) (disch := omega) [ints, rows, scal, wr64, wr8, hat, hin, hi2, h1]
   (repeat' apply And.intro)
   all_goals (try omega)
   refine call_ruleDK (caps := []) (hA) [0] [0] 2 rfl rfl rfl rfl (by kernel_rfl) (by simp) ?_ ?_ (by simp) rfl (by simp) ⟨.inr (.inr ⟨rfl, by simp, by simp⟩), trivial⟩ (by simp [pts_one]) ?_
   ·simp [scal, rows, ints, pts_one]
   ·simp [scal, rows, ints, pts_one]
   simp (maxSteps := 2000000) (disch := omega) [ints, rows, scal, wr64, wr8]
   (repeat' first | apply hK | apply And.intro) <;> try first | (show chkD _ _ = true; kernel_rfl) | (show okH _ _ _ = true; kernel_rfl) | omega | rfl | (simp <;> omega)
   show awp _ _ _ _
   refine awp_R fun K hK => ?_
   simp (maxSteps := 2000000) (disch := omega) [ints, rows, scal, wr64, wr8, k4, k5]
   (repeat' first | apply hK | apply And.intro) <;> try first | (show okH _ _ _ = true; kernel_rfl) | omega | rfl | (simp <;> omega)
   refine ⟨(mv &&& (mv - 1), r ||| 2 ^ nx c), ⟨by simp only; omega, Nat.or_lt_two_pow hr (Nat.pow_lt_pow_right (by omega) (by omega)), fun i hi => ?_, fun j => ?_⟩, hc5, ?_⟩
   ·simp only at hi
    rw [hc4, Bool.and_eq_true] at hi
    exact hsub i hi.1
   ·simp only
    rw [Nat.testBit_or, Nat.testBit_two_pow, Bool.or_eq_true, decide_eq_true_eq, hspec j]
    constructor
    ·rintro ((g | ⟨i, g1, g2, g3⟩) | g)
     ·exact .inl g
     ·exact .inr ⟨i, g1, by rw [hc4, g2]; rfl, g3⟩
     ·exact .inr ⟨c, hsub c hc3, by rw [hc4]; simp, g⟩
    ·rintro (g | ⟨i, g1, g2, g3⟩)
     ·exact .inl (.inl g)
     ·rw [hc4] at g2
      by_cases e : i = c
      ·subst e; exact .inr g3
      ·exact .inl (.inr ⟨i, g1, by simpa [e] using g2, g3⟩)
   ·refine wk_list [(0, some 0)] rfl ?_ ?_ ?_ ?_
    all_goals try simp [ints, psT, pts_one]
 ·have hyq : y = q := by omega
  subst hyq
  have hsp : AftR (s &&& sa) (s &&& sb) nx r := by
   by_cases e : y = 0
   ·rw [hy0 e, hq0 e]
    intro j
    simp
   ·exact hyr (by omega)
  refine awp_cond (b := false) (p := 2) (by simp [scal] <;> omega) ?_
  refine awp_exit ?_
  show awp _ _ _ _
  refine awp_seqR fun K hK => ?_
  simp (maxSteps := 2000000) (disch := omega) [ints, rows, scal, wr64, wr8]
  (repeat' apply And.intro)
  all_goals (try omega)
  refine call_ruleK (caps := []) (hN2 r (by omega)) [0] [0] 2 rfl rfl rfl rfl (by kernel_rfl) (by simp) ?_ ?_ (by simp) rfl (by simp) ⟨.inr (.inr ⟨rfl, by simp, by simp⟩), trivial⟩ (by simp) ?_
  ·simp [scal, rows, ints]
  ·simp [scal, rows, ints]
  simp (maxSteps := 2000000) (disch := omega) [ints, rows, scal, wr64, wr8]
  (repeat' first | apply hK | apply And.intro) <;> try first | (show okH _ _ _ = true; kernel_rfl) | omega | rfl | (simp <;> omega)
  refine awp_ret ?_
  refine ⟨⟨_, _, ⟨r, hsp, hr60, rfl, rfl⟩, ?_⟩, by simp⟩
  refine resQ_G ?_
  refine ⟨.inr rfl, _, [(0, some 0)], (by first | (simp; rfl) | rfl), ?_, ?_, ?_, ?_⟩
  all_goals try simp +contextual (disch := omega) [beq_gt, beq_lt, eq_lt, eq_gt, lt_t, List.getElem?_cons_succ, Option.getD_some, callF, ints, scal, tpO, wkPs_snoc, wkPs_tab, wkT_tab, wk1, rows, bools]

set_option linter.unusedSimpArgs false

def KO (S : List Nat) (H : Nat → Option AObj) (K : ASt → List Nat × List Nat → Prop) : ASt → List Nat × List Nat → Prop := fun σ' s => okH S H σ'.heap = true ∧ K σ' s
theorem KO_ap (S : List Nat) (H : Nat → Option AObj) (K : ASt → List Nat × List Nat → Prop) (σ' : ASt) (s : List Nat × List Nat) : KO S H K σ' s = (okH S H σ'.heap = true ∧ K σ' s) := rfl
theorem awpOpDS_eq (P : Program) (ops : Array Oper) (S : List Nat) (i : Nat) (o : Oper) (σ : ASt) (K : ASt → List Nat × List Nat → Prop) : awpOpDS P ops S i o σ K = match gd ops σ o with
 | some true => match aop P i o.op σ.eval σ.heap with
  | some (c, eff) => c = true ∧ dstOk σ o = true ∧ okH S σ.heap (σ.app o.dst eff).heap = true ∧ K (σ.app o.dst eff) (tchS S o.op eff.tch ++ wrE eff, wrE eff)
  | none => awpCallD P ops i o σ (KO S σ.heap K)
 | some false => dstOk σ o = true ∧ okH S σ.heap σ.heap = true ∧ K (σ.app o.dst { val := .tup [] }) ([], [])
 | none => False := rfl
attribute [-simp] awpOpDS
attribute [simp] KO_ap awpOpDS_eq
def plAt (ps : List PL) (k : Nat) : PL := ps.getD k (0, 0, 0)
def stM (ps : List PL) (a : Nat) : Nat → Nat
 | 0 => 0
 | k + 1 => if (plAt ps k).1.testBit a = true then stM ps a k ||| 2 ^ k else stM ps a k
def spM (ps : List PL) (a : Nat) : Nat → Nat
 | 0 => 0
 | k + 1 => if ¬ (plAt ps k).2.2 < 0 ∧ (plAt ps k).2.1 = (a : Int) then spM ps a k ||| 2 ^ k else spM ps a k
def enM (ps : List PL) : Nat → Nat
 | 0 => 0
 | k + 1 => if (plAt ps k).2.2 < 0 then enM ps k ||| 2 ^ k else enM ps k
theorem stM_lt (ps : List PL) (a : Nat) : ∀ k, stM ps a k < 2 ^ k
 | 0 => by simp [stM]
 | k + 1 => by
  have h1 : stM ps a k < 2 ^ (k + 1) := Nat.lt_of_lt_of_le (stM_lt ps a k) (Nat.pow_le_pow_right (by omega) (by omega))
  have h2 : 2 ^ k < 2 ^ (k + 1) := Nat.pow_lt_pow_right (by omega) (by omega)
  unfold stM
  split
  ·exact Nat.or_lt_two_pow h1 h2
  ·exact h1
theorem spM_lt (ps : List PL) (a : Nat) : ∀ k, spM ps a k < 2 ^ k
 | 0 => by simp [spM]
 | k + 1 => by
  have h1 : spM ps a k < 2 ^ (k + 1) := Nat.lt_of_lt_of_le (spM_lt ps a k) (Nat.pow_le_pow_right (by omega) (by omega))
  have h2 : 2 ^ k < 2 ^ (k + 1) := Nat.pow_lt_pow_right (by omega) (by omega)
  unfold spM
  split
  ·exact Nat.or_lt_two_pow h1 h2
  ·exact h1
theorem enM_lt (ps : List PL) : ∀ k, enM ps k < 2 ^ k
 | 0 => by simp [enM]
 | k + 1 => by
  have h1 : enM ps k < 2 ^ (k + 1) := Nat.lt_of_lt_of_le (enM_lt ps k) (Nat.pow_le_pow_right (by omega) (by omega))
  have h2 : 2 ^ k < 2 ^ (k + 1) := Nat.pow_lt_pow_right (by omega) (by omega)
  unfold enM
  split
  ·exact Nat.or_lt_two_pow h1 h2
  ·exact h1
def ql (q a b : Nat) : Nat := if b < a then q else 0
def cpB (L : Nat) (ps : List PL) (ev : Int) (q a : Nat) : AObj := .box 100 [.t 2 (.int .i64 L), .t 1 (.sl 3 (plsC ps)), .any, .t 2 (.int .i64 ev), .own 1 q, .own 2 (ql q a 0), .own 3 (ql q a 1), .any, .any, .any, .any, .own 4 (ql q a 0), .own 5 (ql q a 1), .any, .any, .any, .any]
def clT (L q b : Nat) (s : Nat) : T := if b < L then psT q s else .any
def plT (L : Nat) (ps : List PL) (ev : Int) : List T := [.int .i64 L, .sl 3 (plsC ps), .any, .int .i64 ev, psT (qOf ps.length) (enM ps ps.length), clT L (qOf ps.length) 0 (stM ps 0 ps.length), clT L (qOf ps.length) 1 (stM ps 1 ps.length), .any, .any, .any, .any, clT L (qOf ps.length) 0 (spM ps 0 ps.length), clT L (qOf ps.length) 1 (spM ps 1 ps.length), .any, .any, .any, .any]
def avT : T → AV
 | .any => .any
 | .sl z x => .t (if z = 1 then 2 else 1) (.sl z x)
 | x => .t 2 x
def plA (L : Nat) (ps : List PL) (ev : Int) : List AV := (plT L ps ev).map avT
structure PlOK (L : Nat) (ps : List PL) : Prop where
 n : ps.length ≤ 60
 lt : ∀ (i : Nat) p, ps[i]? = some p → ¬ p.2.2 < 0 → p.2.2 < (i : Int) ∧ 0 ≤ p.2.1 ∧ p.2.1 < (L : Int)
set_option maxRecDepth 100000 in
set_option maxHeartbeats 4000000 in
theorem complete_fn {L : Nat} (hL : L = 1 ∨ L = 2) {ps : List PL} (ev : Int) (h : PlOK L ps) : FnS Tryd.prog 60 [.ptr 0 0 17] [.box 100 [.t 2 (.int .i64 L), .t 1 (.sl 3 (plsC ps)), .any, .t 2 (.int .i64 ev), .t 1 (.sl 0 []), .t 1 (.sl 0 []), .t 1 (.sl 0 []), .t 1 (.sl 0 []), .t 1 (.sl 0 []), .t 1 (.sl 0 []), .t 1 (.sl 0 []), .t 1 (.sl 0 []), .t 1 (.sl 0 []), .t 1 (.sl 0 []), .t 1 (.sl 0 []), .t 1 (.sl 0 []), .t 1 (.sl 0 [])]] (.tup []) [.box 100 (plA L ps ev)] := by
 have hn := h.n
 have hN := pnone_fn (cs := [.int .i64 L, .sl 3 (plsC ps)]) (r := []) rfl (by omega)
 have hq1 := qOf_le (show ps.length ≤ 64 by omega)
 have hqp : 0 < ps.length → qOf ps.length = 1 := fun h => by unfold qOf; omega
 obtain ⟨q, hq⟩ : ∃ q, q = qOf ps.length := ⟨_, rfl⟩
 rw [← hq] at hN hq1 hqp
 have hdv := pls_div ps
 refine fn_intro Tryd.func60 rfl (by simp [Tryd.f60]) ?_
 rw [show Tryd.f60.ntmps = 84 from rfl, show Tryd.f60.results = #[] from rfl]
 refine awp_seqR fun K hK => ?_
 simp (maxSteps := 2000000) (disch := omega) [ints, rows, scal, wr64, wr8]
 (repeat' apply And.intro)
 all_goals (try omega)
 refine call_rule (caps := []) (hN) [] [2000001] 2 rfl rfl rfl rfl (by kernel_rfl) (by simp) ?_ ?_ (by simp) rfl (by simp) ⟨.inl ⟨by omega, by omega⟩, trivial⟩ (by simp) ?_
 ·simp [scal, rows, ints]
 ·trivial
 simp (maxSteps := 2000000) (disch := omega) [ints, rows, scal, wr64, wr8]
 (repeat' first | apply hK | apply And.intro) <;> try first | (show okH _ _ _ = true; kernel_rfl) | omega | rfl | (simp <;> omega)
 refine awp_seq ?_
 refine awp_seqR fun K hK => ?_
 simp (maxSteps := 2000000) (disch := omega) [ints, rows, scal, wr64, wr8]
 (repeat' first | apply hK | apply And.intro) <;> try first | (show okH _ _ _ = true; kernel_rfl) | omega | rfl | (simp <;> omega)
 refine awp_block ?_
 refine awp_loop (fun a : Nat => mkS [(0, .ptr 0 0 17), (14, .t 2 (.int .i64 L)), (15, .t 2 (.int .i64 a))] [(0, cpB L ps ev q a), (1, .row 73 1 2 (pts q 0)), (2, .row 73 1 2 (pts (ql q a 0) 0)), (3, .row 73 1 2 (pts (ql q a 1) 0)), (4, .row 73 1 2 (pts (ql q a 0) 0)), (5, .row 73 1 2 (pts (ql q a 1) 0))] 6 84 [.ptr 0 0 17]) (fun a => a ≤ L) (fun a => L - a) ?_ ?_
 ·refine ⟨0, by omega, ?_⟩
  refine wk_list [(0, some 0), (1, some 2000001), (2, none), (3, none), (4, none), (5, none)] rfl ?_ ?_ ?_ ?_
  all_goals try simp [ints, cpB, ql, pts_zero]
 intro a ha
 refine awp_seqR fun K hK => ?_
 simp (maxSteps := 2000000) (disch := omega) [ints, rows, scal, wr64, wr8]
 (repeat' first | apply hK | apply And.intro) <;> try first | (show okH _ _ _ = true; kernel_rfl) | omega | rfl | (simp <;> omega)
 refine awp_seq ?_
 by_cases hc : a < L
 ·refine awp_cond (b := true) (p := 2) (by simp [scal, hc] <;> omega) ?_
  refine awp_skip ?_
  show awp _ _ _ _
  refine awp_seq ?_
  refine awp_block ?_
  refine awp_seqR fun K hK => ?_
  simp (maxSteps := 2000000) (disch := omega) [ints, rows, scal, wr64, wr8]
  (repeat' first | apply hK | apply And.intro) <;> try first | (show okH _ _ _ = true; kernel_rfl) | omega | rfl | (simp <;> omega)
  rcases (by omega : a = 0 ∨ a = 1) with rfl | rfl
  ·refine awp_RDS [0] (by kernel_rfl) (by kernel_rfl) (fun K hK => ?_)
   simp (maxSteps := 2000000) (disch := omega) [ints, rows, scal, wr64, wr8, cpB]
   (repeat' apply And.intro) <;> try first | omega | (show okH _ _ _ = true; kernel_rfl)
   (repeat' apply And.intro)
   all_goals (try omega)
   refine call_ruleD (caps := []) (hN) [] [8000006] 2 rfl rfl rfl rfl (by kernel_rfl) (by simp) ?_ ?_ (by simp) rfl (by simp) ⟨.inl ⟨by omega, by omega⟩, trivial⟩ (by simp [cpB]) ?_
   ·simp [scal, rows, ints, cpB]
   ·trivial
   simp (maxSteps := 2000000) (disch := omega) [ints, rows, scal, wr64, wr8]
   (repeat' apply And.intro) <;> try first | omega | (show okH _ _ _ = true; kernel_rfl)
   (repeat' apply And.intro)
   all_goals (try omega)
   refine call_ruleD (caps := []) (hN) [] [10000006] 2 rfl rfl rfl rfl (by kernel_rfl) (by simp) ?_ ?_ (by simp) rfl (by simp) ⟨.inl ⟨by omega, by omega⟩, trivial⟩ (by simp [cpB]) ?_
   ·simp [scal, rows, ints, cpB]
   ·trivial
   simp (maxSteps := 2000000) (disch := omega) [ints, rows, scal, wr64, wr8, cpB]
   (repeat' first | apply hK | apply And.intro) <;> try first | (show chkD _ _ = true; kernel_rfl) | (show okH _ _ _ = true; kernel_rfl) | omega | rfl | (simp <;> omega)
   show awp _ _ _ _
   refine awp_R fun K hK => ?_
   simp (maxSteps := 2000000) (disch := omega) [ints, rows, scal, wr64, wr8]
   (repeat' first | apply hK | apply And.intro) <;> try first | (show okH _ _ _ = true; kernel_rfl) | omega | rfl | (simp <;> omega)
   refine ⟨1, by omega, by omega, ?_⟩
   refine wk_list [(0, some 0), (1, some 1), (2, some 8000006), (3, some 3), (4, some 10000006), (5, some 5)] rfl ?_ ?_ ?_ ?_
   all_goals try simp [ints, cpB, ql, pts_zero]
  ·refine awp_RDS [0] (by kernel_rfl) (by kernel_rfl) (fun K hK => ?_)
   simp (maxSteps := 2000000) (disch := omega) [ints, rows, scal, wr64, wr8, cpB]
   (repeat' apply And.intro) <;> try first | omega | (show okH _ _ _ = true; kernel_rfl)
   (repeat' apply And.intro)
   all_goals (try omega)
   refine call_ruleD (caps := []) (hN) [] [8000006] 2 rfl rfl rfl rfl (by kernel_rfl) (by simp) ?_ ?_ (by simp) rfl (by simp) ⟨.inl ⟨by omega, by omega⟩, trivial⟩ (by simp [cpB]) ?_
   ·simp [scal, rows, ints, cpB]
   ·trivial
   simp (maxSteps := 2000000) (disch := omega) [ints, rows, scal, wr64, wr8]
   (repeat' apply And.intro) <;> try first | omega | (show okH _ _ _ = true; kernel_rfl)
   (repeat' apply And.intro)
   all_goals (try omega)
   refine call_ruleD (caps := []) (hN) [] [10000006] 2 rfl rfl rfl rfl (by kernel_rfl) (by simp) ?_ ?_ (by simp) rfl (by simp) ⟨.inl ⟨by omega, by omega⟩, trivial⟩ (by simp [cpB]) ?_
   ·simp [scal, rows, ints, cpB]
   ·trivial
   simp (maxSteps := 2000000) (disch := omega) [ints, rows, scal, wr64, wr8, cpB]
   (repeat' first | apply hK | apply And.intro) <;> try first | (show chkD _ _ = true; kernel_rfl) | (show okH _ _ _ = true; kernel_rfl) | omega | rfl | (simp <;> omega)
   show awp _ _ _ _
   refine awp_R fun K hK => ?_
   simp (maxSteps := 2000000) (disch := omega) [ints, rows, scal, wr64, wr8]
   (repeat' first | apply hK | apply And.intro) <;> try first | (show okH _ _ _ = true; kernel_rfl) | omega | rfl | (simp <;> omega)
   refine ⟨2, by omega, by omega, ?_⟩
   refine wk_list [(0, some 0), (1, some 1), (2, some 2), (3, some 8000006), (4, some 4), (5, some 10000006)] rfl ?_ ?_ ?_ ?_
   all_goals try simp [ints, cpB, ql, pts_zero]
 ·have hae : a = L := by omega
  subst hae
  refine awp_cond (b := false) (p := 2) (by simp [scal] <;> omega) ?_
  refine awp_exit ?_
  show awp _ _ _ _
  refine awp_seqR fun K hK => ?_
  simp (maxSteps := 2000000) (disch := omega) [ints, rows, scal, wr64, wr8, cpB, hdv]
  (repeat' first | apply hK | apply And.intro) <;> try first | (show okH _ _ _ = true; kernel_rfl) | omega | rfl | (simp <;> omega)
  refine awp_block ?_
  refine awp_loop (fun k : Nat => mkS [(0, .ptr 0 0 17), (36, .t 1 (.sl 3 (plsC ps))), (37, .t 2 (.int .i64 ps.length)), (38, .t 2 (.int .i64 k))] [(0, cpB a ps ev q a), (1, .row 73 1 2 (pts q (enM ps k))), (2, .row 73 1 2 (pts (ql q a 0) (stM ps 0 k))), (3, .row 73 1 2 (pts (ql q a 1) (stM ps 1 k))), (4, .row 73 1 2 (pts (ql q a 0) (spM ps 0 k))), (5, .row 73 1 2 (pts (ql q a 1) (spM ps 1 k)))] 6 84 [.ptr 0 0 17]) (fun k => k ≤ ps.length) (fun k => ps.length - k) ?_ ?_
  ·refine ⟨0, by omega, ?_⟩
   refine wk_list [(0, some 0), (1, some 1), (2, some 2), (3, some 3), (4, some 4), (5, some 5)] rfl ?_ ?_ ?_ ?_
   all_goals try simp [ints, cpB, stM, spM, enM]
  intro k hk
  refine awp_seqR fun K hK => ?_
  simp (maxSteps := 2000000) (disch := omega) [ints, rows, scal, wr64, wr8]
  (repeat' first | apply hK | apply And.intro) <;> try first | (show okH _ _ _ = true; kernel_rfl) | omega | rfl | (simp <;> omega)
  refine awp_seq ?_
  by_cases hk2 : k < ps.length
  ·refine awp_cond (b := true) (p := 2) (by simp [scal, hk2] <;> omega) ?_
   have hat := pls_at hk2
   have hin := pls_in hk2
   have hpl : plAt ps k = ps[k] := by simp [plAt, List.getD_eq_getElem?_getD, hk2]
   obtain rfl := hqp (by omega)
   have hlt := h.lt k ps[k] (by simp)
   have hk60 : (2 : Nat) ^ k ≤ 2 ^ 60 := Nat.pow_le_pow_right (by omega) (by omega)
   generalize hgp : ps[k] = p at *
   obtain ⟨st, le, nx⟩ := p
   simp only at hat hlt
   refine awp_skip ?_
   show awp _ _ _ _
   refine awp_seq ?_
   refine awp_block ?_
   refine awp_seqR fun K hK => ?_
   simp (maxSteps := 2000000) (disch := omega) [ints, rows, scal, wr64, wr8, hat, hin]
   (repeat' first | apply hK | apply And.intro) <;> try first | (show okH _ _ _ = true; kernel_rfl) | omega | rfl | (simp <;> omega)
   refine awp_seq ?_
   refine awp_seqR fun K hK => ?_
   simp (maxSteps := 2000000) (disch := omega) [ints, rows, scal, wr64, wr8, cpB]
   (repeat' first | apply hK | apply And.intro) <;> try first | (show okH _ _ _ = true; kernel_rfl) | omega | rfl | (simp <;> omega)
   refine awp_block ?_
   refine awp_loop (fun b : Nat => mkS [(0, .ptr 0 0 17), (3, .t 2 (.int .i64 k)), (4, .ptr 6 0 3), (36, .t 1 (.sl 3 (plsC ps))), (37, .t 2 (.int .i64 ps.length)), (38, .t 2 (.int .i64 k)), (46, .t 2 (.int .i64 a)), (47, .t 2 (.int .i64 b))] [(0, cpB a ps ev 1 a), (1, .row 73 1 2 (pts 1 (enM ps k))), (2, .row 73 1 2 (pts (ql 1 a 0) (stM ps 0 (if 0 < b then k + 1 else k)))), (3, .row 73 1 2 (pts (ql 1 a 1) (stM ps 1 (if 1 < b then k + 1 else k)))), (4, .row 73 1 2 (pts (ql 1 a 0) (spM ps 0 k))), (5, .row 73 1 2 (pts (ql 1 a 1) (spM ps 1 k))), (6, .box 136 [.t 2 (.int .i64 (st : Nat)), .t 2 (.int .i64 le), .t 2 (.int .i64 nx)])] 7 84 [.ptr 0 0 17]) (fun b => b ≤ a) (fun b => a - b) ?_ ?_
   ·refine ⟨0, by omega, ?_⟩
    refine wk_list [(0, some 0), (1, some 1), (2, some 2), (3, some 3), (4, some 4), (5, some 5), (6, some 4000006)] rfl ?_ ?_ ?_ ?_
    all_goals try simp [ints, cpB]
   intro b hb
   refine awp_seqR fun K hK => ?_
   simp (maxSteps := 2000000) (disch := omega) [ints, rows, scal, wr64, wr8]
   (repeat' first | apply hK | apply And.intro) <;> try first | (show okH _ _ _ = true; kernel_rfl) | omega | rfl | (simp <;> omega)
   refine awp_seq ?_
   by_cases hb2 : b < a
   ·refine awp_cond (b := true) (p := 2) (by simp [scal, hb2] <;> omega) ?_
    have d1 : shrI .i64 (st : Int) (b : Int) = ((st / 2 ^ b : Nat) : Int) := shrN (by show b ≤ 64; omega)
    have hbit : st.testBit b = decide (st / 2 ^ b % 2 = 1) := Nat.testBit_eq_decide_div_mod_eq
    generalize st / 2 ^ b = u at d1 hbit
    have hql : ql 1 a b = 1 := by simp [ql, hb2]
    refine awp_skip ?_
    show awp _ _ _ _
    refine awp_seq ?_
    refine awp_block ?_
    refine awp_seqR fun K hK => ?_
    simp (maxSteps := 2000000) (disch := omega) [ints, rows, scal, wr64, wr8]
    (repeat' first | apply hK | apply And.intro) <;> try first | (show okH _ _ _ = true; kernel_rfl) | omega | rfl | (simp <;> omega)
    refine awp_seqR fun K hK => ?_
    simp (maxSteps := 2000000) (disch := omega) [ints, rows, scal, wr64, wr8, d1]
    (repeat' first | apply hK | apply And.intro) <;> try first | (show okH _ _ _ = true; kernel_rfl) | omega | rfl | (simp <;> omega)
    rcases (by omega : b = 0 ∨ b = 1) with rfl | rfl
    ·by_cases hb3 : st.testBit 0 = true
     ·have hu : (u : Int) % 2 = 1 := by rw [hb3] at hbit; have := hbit.symm; simp only [decide_eq_true_eq] at this; omega
      have hst : stM ps 0 (k + 1) = stM ps 0 k ||| 2 ^ k := by simp only [stM, hpl]; rw [if_pos hb3]
      refine awp_cond (b := true) (p := 2) (by simp [scal, hu] <;> omega) ?_
      refine awp_R fun K hK => ?_
      simp (maxSteps := 2000000) (disch := omega) [ints, rows, scal, wr64, wr8, cpB]
      (repeat' apply And.intro)
      all_goals (try omega)
      refine call_ruleK (caps := []) (setAdd_fn (s := stM ps 0 k) (i := k) (by have := stM_lt ps 0 k; omega) (by omega)) [2] [2] 2 rfl rfl rfl rfl (by kernel_rfl) (by simp) ?_ ?_ (by simp) rfl (by simp) ⟨.inr (.inr ⟨rfl, by simp, by simp⟩), trivial⟩ (by simp [pts_one, hql]) ?_
      ·simp [scal, rows, ints, pts_one, hql]
      ·simp [scal, rows, ints, pts_one, hql]
      simp (maxSteps := 2000000) (disch := omega) [ints, rows, scal, wr64, wr8]
      (repeat' first | apply hK | apply And.intro) <;> try first | (show okH _ _ _ = true; kernel_rfl) | omega | rfl | (simp <;> omega)
      show awp _ _ _ _
      refine awp_R fun K hK => ?_
      simp (maxSteps := 2000000) (disch := omega) [ints, rows, scal, wr64, wr8]
      (repeat' first | apply hK | apply And.intro) <;> try first | (show okH _ _ _ = true; kernel_rfl) | omega | rfl | (simp <;> omega)
      refine ⟨0 + 1, by omega, by omega, ?_⟩
      refine wk_list [(0, some 0), (1, some 1), (2, some 2), (3, some 3), (4, some 4), (5, some 5), (6, some 6)] rfl ?_ ?_ ?_ ?_
      all_goals try simp [ints, cpB, hst, hql, pts_one]
     ·have hu : ¬ (u : Int) % 2 = 1 := by intro h; apply hb3; rw [hbit]; simp only [decide_eq_true_eq]; omega
      have hst : stM ps 0 (k + 1) = stM ps 0 k := by simp only [stM, hpl]; rw [if_neg hb3]
      refine awp_cond (b := false) (p := 2) (by simp [scal, hu] <;> omega) ?_
      refine awp_skip ?_
      show awp _ _ _ _
      refine awp_R fun K hK => ?_
      simp (maxSteps := 2000000) (disch := omega) [ints, rows, scal, wr64, wr8]
      (repeat' first | apply hK | apply And.intro) <;> try first | (show okH _ _ _ = true; kernel_rfl) | omega | rfl | (simp <;> omega)
      refine ⟨0 + 1, by omega, by omega, ?_⟩
      refine wk_list [(0, some 0), (1, some 1), (2, some 2), (3, some 3), (4, some 4), (5, some 5), (6, some 6)] rfl ?_ ?_ ?_ ?_
      all_goals try simp [ints, cpB, hst]
    ·by_cases hb3 : st.testBit 1 = true
     ·have hu : (u : Int) % 2 = 1 := by rw [hb3] at hbit; have := hbit.symm; simp only [decide_eq_true_eq] at this; omega
      have hst : stM ps 1 (k + 1) = stM ps 1 k ||| 2 ^ k := by simp only [stM, hpl]; rw [if_pos hb3]
      refine awp_cond (b := true) (p := 2) (by simp [scal, hu] <;> omega) ?_
      refine awp_R fun K hK => ?_
      simp (maxSteps := 2000000) (disch := omega) [ints, rows, scal, wr64, wr8, cpB]
      (repeat' apply And.intro)
      all_goals (try omega)
      refine call_ruleK (caps := []) (setAdd_fn (s := stM ps 1 k) (i := k) (by have := stM_lt ps 1 k; omega) (by omega)) [3] [3] 2 rfl rfl rfl rfl (by kernel_rfl) (by simp) ?_ ?_ (by simp) rfl (by simp) ⟨.inr (.inr ⟨rfl, by simp, by simp⟩), trivial⟩ (by simp [pts_one, hql]) ?_
      ·simp [scal, rows, ints, pts_one, hql]
      ·simp [scal, rows, ints, pts_one, hql]
      simp (maxSteps := 2000000) (disch := omega) [ints, rows, scal, wr64, wr8]
      (repeat' first | apply hK | apply And.intro) <;> try first | (show okH _ _ _ = true; kernel_rfl) | omega | rfl | (simp <;> omega)
      show awp _ _ _ _
      refine awp_R fun K hK => ?_
      simp (maxSteps := 2000000) (disch := omega) [ints, rows, scal, wr64, wr8]
      (repeat' first | apply hK | apply And.intro) <;> try first | (show okH _ _ _ = true; kernel_rfl) | omega | rfl | (simp <;> omega)
      refine ⟨1 + 1, by omega, by omega, ?_⟩
      refine wk_list [(0, some 0), (1, some 1), (2, some 2), (3, some 3), (4, some 4), (5, some 5), (6, some 6)] rfl ?_ ?_ ?_ ?_
      all_goals try simp [ints, cpB, hst, hql, pts_one]
     ·have hu : ¬ (u : Int) % 2 = 1 := by intro h; apply hb3; rw [hbit]; simp only [decide_eq_true_eq]; omega
      have hst : stM ps 1 (k + 1) = stM ps 1 k := by simp only [stM, hpl]; rw [if_neg hb3]
      refine awp_cond (b := false) (p := 2) (by simp [scal, hu] <;> omega) ?_
      refine awp_skip ?_
      show awp _ _ _ _
      refine awp_R fun K hK => ?_
      simp (maxSteps := 2000000) (disch := omega) [ints, rows, scal, wr64, wr8]
      (repeat' first | apply hK | apply And.intro) <;> try first | (show okH _ _ _ = true; kernel_rfl) | omega | rfl | (simp <;> omega)
      refine ⟨1 + 1, by omega, by omega, ?_⟩
      refine wk_list [(0, some 0), (1, some 1), (2, some 2), (3, some 3), (4, some 4), (5, some 5), (6, some 6)] rfl ?_ ?_ ?_ ?_
      all_goals try simp [ints, cpB, hst]
   ·have hba : b = a := by omega
    subst hba
    refine awp_cond (b := false) (p := 2) (by simp [scal] <;> omega) ?_
    refine awp_exit ?_
    show awp _ _ _ _
    have hs0 : stM ps 0 (if 0 < b then k + 1 else k) = stM ps 0 (k + 1) := by rw [if_pos (by omega)]
    have hs1 : pts (ql 1 b 1) (stM ps 1 (if 1 < b then k + 1 else k)) = pts (ql 1 b 1) (stM ps 1 (k + 1)) := by
     by_cases e : 1 < b
     ·rw [if_pos e]
     ·have : ql 1 b 1 = 0 := by simp [ql, e]
      rw [this]; rfl
    rw [hs0, hs1]
    refine awp_seqR fun K hK => ?_
    simp (maxSteps := 2000000) (disch := omega) [ints, rows, scal, wr64, wr8]
    (repeat' first | apply hK | apply And.intro) <;> try first | (show okH _ _ _ = true; kernel_rfl) | omega | rfl | (simp <;> omega)
    by_cases hnx : nx < 0
    ·have hen : enM ps (k + 1) = enM ps k ||| 2 ^ k := by simp only [enM, hpl]; rw [if_pos hnx]
     have hp0 : spM ps 0 (k + 1) = spM ps 0 k := by simp only [spM, hpl]; rw [if_neg (fun h => h.1 hnx)]
     have hp1 : spM ps 1 (k + 1) = spM ps 1 k := by simp only [spM, hpl]; rw [if_neg (fun h => h.1 hnx)]
     refine awp_cond (b := true) (p := 2) (by simp [scal, hnx] <;> omega) ?_
     refine awp_R fun K hK => ?_
     simp (maxSteps := 2000000) (disch := omega) [ints, rows, scal, wr64, wr8, cpB]
     (repeat' apply And.intro)
     all_goals (try omega)
     refine call_ruleK (caps := []) (setAdd_fn (s := enM ps k) (i := k) (by have := enM_lt ps k; omega) (by omega)) [1] [1] 2 rfl rfl rfl rfl (by kernel_rfl) (by simp) ?_ ?_ (by simp) rfl (by simp) ⟨.inr (.inr ⟨rfl, by simp, by simp⟩), trivial⟩ (by simp [pts_one]) ?_
     ·simp [scal, rows, ints, pts_one]
     ·simp [scal, rows, ints, pts_one]
     simp (maxSteps := 2000000) (disch := omega) [ints, rows, scal, wr64, wr8]
     (repeat' first | apply hK | apply And.intro) <;> try first | (show okH _ _ _ = true; kernel_rfl) | omega | rfl | (simp <;> omega)
     show awp _ _ _ _
     refine awp_R fun K hK => ?_
     simp (maxSteps := 2000000) (disch := omega) [ints, rows, scal, wr64, wr8]
     (repeat' first | apply hK | apply And.intro) <;> try first | (show okH _ _ _ = true; kernel_rfl) | omega | rfl | (simp <;> omega)
     refine ⟨k + 1, by omega, by omega, ?_⟩
     refine wk_list [(0, some 0), (1, some 1), (2, some 2), (3, some 3), (4, some 4), (5, some 5)] rfl ?_ ?_ ?_ ?_
     all_goals try simp [ints, cpB, hen, hp0, hp1, pts_one]
    ·have hen : enM ps (k + 1) = enM ps k := by simp only [enM, hpl]; rw [if_neg hnx]
     obtain ⟨hl1, hl2, hl3⟩ := hlt hnx
     refine awp_cond (b := false) (p := 2) (by simp [scal, hnx] <;> omega) ?_
     rcases (by omega : le = 0 ∨ le = 1) with rfl | rfl
     ·have hp0 : spM ps 0 (k + 1) = spM ps 0 k ||| 2 ^ k := by simp only [spM, hpl]; rw [if_pos ⟨hnx, rfl⟩]
      have hp1 : spM ps 1 (k + 1) = spM ps 1 k := by simp only [spM, hpl]; rw [if_neg (fun h => by have := h.2; omega)]
      have hql : ql 1 b 0 = 1 := by simp [ql]; omega
      refine awp_RD (by kernel_rfl) (fun K hK => ?_)
      simp (maxSteps := 2000000) (disch := omega) [ints, rows, scal, wr64, wr8, cpB]
      (repeat' apply And.intro)
      all_goals (try omega)
      refine call_ruleDK (caps := []) (setAdd_fn (s := spM ps 0 k) (i := k) (by have := spM_lt ps 0 k; omega) (by omega)) [4] [4] 2 rfl rfl rfl rfl (by kernel_rfl) (by simp) ?_ ?_ (by simp) rfl (by simp) ⟨.inr (.inr ⟨rfl, by simp, by simp⟩), trivial⟩ (by simp [pts_one, hql]) ?_
      ·simp [scal, rows, ints, pts_one, hql]
      ·simp [scal, rows, ints, pts_one, hql]
      simp (maxSteps := 2000000) (disch := omega) [ints, rows, scal, wr64, wr8]
      (repeat' first | apply hK | apply And.intro) <;> try first | (show chkD _ _ = true; kernel_rfl) | (show okH _ _ _ = true; kernel_rfl) | omega | rfl | (simp <;> omega)
      show awp _ _ _ _
      refine awp_R fun K hK => ?_
      simp (maxSteps := 2000000) (disch := omega) [ints, rows, scal, wr64, wr8]
      (repeat' first | apply hK | apply And.intro) <;> try first | (show okH _ _ _ = true; kernel_rfl) | omega | rfl | (simp <;> omega)
      refine ⟨k + 1, by omega, by omega, ?_⟩
      refine wk_list [(0, some 0), (1, some 1), (2, some 2), (3, some 3), (4, some 4), (5, some 5)] rfl ?_ ?_ ?_ ?_
      all_goals try simp [ints, cpB, hen, hp0, hp1, pts_one, hql]
     ·have hp0 : spM ps 0 (k + 1) = spM ps 0 k := by simp only [spM, hpl]; rw [if_neg (fun h => by have := h.2; omega)]
      have hp1 : spM ps 1 (k + 1) = spM ps 1 k ||| 2 ^ k := by simp only [spM, hpl]; rw [if_pos ⟨hnx, rfl⟩]
      have hql : ql 1 b 1 = 1 := by simp [ql]; omega
      refine awp_RD (by kernel_rfl) (fun K hK => ?_)
      simp (maxSteps := 2000000) (disch := omega) [ints, rows, scal, wr64, wr8, cpB]
      (repeat' apply And.intro)
      all_goals (try omega)
      refine call_ruleDK (caps := []) (setAdd_fn (s := spM ps 1 k) (i := k) (by have := spM_lt ps 1 k; omega) (by omega)) [5] [5] 2 rfl rfl rfl rfl (by kernel_rfl) (by simp) ?_ ?_ (by simp) rfl (by simp) ⟨.inr (.inr ⟨rfl, by simp, by simp⟩), trivial⟩ (by simp [pts_one, hql]) ?_
      ·simp [scal, rows, ints, pts_one, hql]
      ·simp [scal, rows, ints, pts_one, hql]
      simp (maxSteps := 2000000) (disch := omega) [ints, rows, scal, wr64, wr8]
      (repeat' first | apply hK | apply And.intro) <;> try first | (show chkD _ _ = true; kernel_rfl) | (show okH _ _ _ = true; kernel_rfl) | omega | rfl | (simp <;> omega)
      show awp _ _ _ _
      refine awp_R fun K hK => ?_
      simp (maxSteps := 2000000) (disch := omega) [ints, rows, scal, wr64, wr8]
      (repeat' first | apply hK | apply And.intro) <;> try first | (show okH _ _ _ = true; kernel_rfl) | omega | rfl | (simp <;> omega)
      refine ⟨k + 1, by omega, by omega, ?_⟩
      refine wk_list [(0, some 0), (1, some 1), (2, some 2), (3, some 3), (4, some 4), (5, some 5)] rfl ?_ ?_ ?_ ?_
      all_goals try simp [ints, cpB, hen, hp0, hp1, pts_one, hql]
  ·have hkn : k = ps.length := by omega
   subst hkn
   refine awp_cond (b := false) (p := 2) (by simp [scal] <;> omega) ?_
   refine awp_exit ?_
   rcases hL with rfl | rfl
   ·refine ⟨⟨.inl rfl, _, [(0, some 0)], (by first | rfl | (simp [ints, rows, scal, tpO, cpB, plA, plT, clT, ql, avT, psT, ← hq]; rfl)), ?_, ?_, ?_, ?_⟩, ?_⟩
    all_goals try simp [ints, rows, scal, tpO, cpB, plA, plT, clT, ql, avT, psT, ← hq]
   ·refine ⟨⟨.inl rfl, _, [(0, some 0)], (by first | rfl | (simp [ints, rows, scal, tpO, cpB, plA, plT, clT, ql, avT, psT, ← hq]; rfl)), ?_, ?_, ?_, ?_⟩, ?_⟩
    all_goals try simp [ints, rows, scal, tpO, cpB, plA, plT, clT, ql, avT, psT, ← hq]
end Go.Proofs.YtnffigeofdagfaaDoor.M
