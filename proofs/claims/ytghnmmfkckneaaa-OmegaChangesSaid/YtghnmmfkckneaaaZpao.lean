/-
  Walks in my logic: the texts of terms (omega.appendTerm, Format, FormatIdentity).
  The text of a term is read back (layer 28, plain Lean).
-/
import Derived.Test.YtghnmmfkckneaaaZpaj
namespace Go.Proofs.Ytghnmmfkckneaaa.M
open Go.RowKit
set_option linter.unusedVariables false
set_option linter.unusedSimpArgs false

attribute [simp] aAppStr
@[simp] theorem u8E : u8El Try.prog 5 = true := by kernel_rfl
/-- The name of a variable. -/
def nameB (n : Int) : Int := byteAt namesB n.toNat
/-- The text of an exponent. -/
def expB (n : Int) : List Int := if n = 0 then [94, 119] else if n < 0 then [94, 40, 119, 45, 49, 41] else [94, 40, 119, 43, 48 + n, 41]
mutual
/-- The text of a term. -/
def Tm.fmt : Tm → Bool → List Int
  | .mk o n l, inner => if o = 1 then [49] else if o = 2 then [nameB n] else if o = 4 then fmtL l ++ expB n else (if inner then [40] else []) ++ fmtL l ++ (if inner then [41] else [])
def fmtL : List Tm → List Int
  | [] => []
  | a :: r => a.fmt true ++ fmtL r
end
theorem fmt_eq (t : Tm) (inner : Bool) : t.fmt inner = if t.op = 1 then [49] else if t.op = 2 then [nameB t.n] else if t.op = 4 then fmtL t.args ++ expB t.n else (if inner then [40] else []) ++ fmtL t.args ++ (if inner then [41] else []) := by
  obtain ⟨o, n, l⟩ := t
  rw [Tm.fmt]
  rfl
theorem fmtL_app : ∀ l r : List Tm, fmtL (l ++ r) = fmtL l ++ fmtL r
  | [], r => by show fmtL r = [] ++ fmtL r; simp
  | a :: l, r => by
    show a.fmt true ++ fmtL (l ++ r) = (a.fmt true ++ fmtL l) ++ fmtL r
    rw [fmtL_app l r, List.append_assoc]
theorem take_fmt {l : List Tm} {k : Nat} (h : k < l.length) : fmtL (l.take (k + 1)) = fmtL (l.take k) ++ l[k].fmt true := by
  rw [List.take_succ_eq_append_getElem h, fmtL_app]
  show _ ++ (l[k].fmt true ++ []) = _
  rw [List.append_nil]
theorem expB_len (n : Int) : (expB n).length ≤ 6 := by
  unfold expB
  split
  · simp
  · split <;> simp
mutual
theorem fmt_len : ∀ (t : Tm) (inner : Bool), (t.fmt inner).length ≤ 8 * t.sz
  | .mk o n l, inner => by
    have := fmtL_len l
    have := expB_len n
    rw [Tm.fmt, Tm.sz]
    split
    · simp; omega
    · split
      · simp; omega
      · split
        · rw [List.length_append]; omega
        · cases inner <;> simp <;> omega
theorem fmtL_len : ∀ l : List Tm, (fmtL l).length ≤ 8 * szL l
  | [] => by simp [fmtL]
  | a :: r => by
    have := fmt_len a true
    have := fmtL_len r
    rw [fmtL, szL, List.length_append]; omega
end
def bT (bs : List Int) : List T := bs.map (.int .u8)
@[simp] theorem bT_len (bs : List Int) : (bT bs).length = bs.length := by simp [bT]
def byO (bs : List Int) : AObj := .row 5 1 1 (bT bs)
/-- A term below has a contract. -/
def AppS (t : Tm) : Prop := ∀ (bs : List Int) (inner : Bool), bs.length + 8 * t.sz ≤ 1000000 → FnS Try.prog 49 [.own 0 bs.length, tmV 0 t, .t 2 (.bool inner)] [byO bs] (.own 0 (bs ++ t.fmt inner).length) [byO (bs ++ t.fmt inner)]
theorem name_ok {n : Int} (h0 : 0 ≤ n) (h1 : n < 6) : byteAt ⟨#[120, 121, 122, 117, 118, 116]⟩ n.toNat = nameB n := rfl
theorem bsT2 (a b : UInt8) : bsT ⟨#[a, b]⟩ = bT [a.toNat, b.toNat] := rfl
theorem bsT6 (a b c d e f : UInt8) : bsT ⟨#[a, b, c, d, e, f]⟩ = bT [a.toNat, b.toNat, c.toNat, d.toNat, e.toNat, f.toNat] := rfl
set_option maxRecDepth 100000 in
set_option maxHeartbeats 8000000 in
theorem app_body (t : Tm) (ho : t.ok = true) (ih : ∀ a ∈ t.args, AppS a) (bs : List Int) (inner : Bool) (hb : bs.length + 8 * t.sz ≤ 1000000) (c : Code) (hc : Try.f49.body = some c) :
    awp Try.prog c (fun e σ => resQ Try.prog Try.f49.results.toList (.own 0 (bs ++ t.fmt inner).length) [byO (bs ++ t.fmt inner)] e σ ∧ σ.gh = [.any, .any, .any])
      (mkS [(0, .own 0 bs.length), (1, tmV 0 t), (2, .t 2 (.bool inner))] [(0, byO bs)] 1 71 [.any, .any, .any]) := by
  unfold Try.f49 at hc
  injection hc with hc
  subst hc
  rw [show Try.f49.results = #[.tmp 6] from rfl]
  have hwf : t.wf = true := by rw [ok_eq, Bool.and_eq_true] at ho; exact ho.1
  have hokl : okL' t.args = true := by rw [ok_eq, Bool.and_eq_true] at ho; exact ho.2
  unfold Tm.wf at hwf
  rw [decide_eq_true_iff] at hwf
  have hsz := sz_eq t
  have hsl := szL_ge t.args
  have hfl := fmtL_len t.args
  rw [fmt_eq]
  refine awp_seqR (fun K hK => ?_)
  simp (maxSteps := 2000000) (disch := omega) [ints, rows, scal, wr64, wr8, tmV, byO]
  (repeat' first | refine hK _ ?_ | apply And.intro) <;> clear hK K <;> try first | (show chkD _ _ = true; kernel_rfl) | omega | rfl | (simp; done) | (simp; omega)
  refine awp_seq ?_
  refine awp_seqR (fun K hK => ?_)
  simp (maxSteps := 2000000) (disch := omega) [ints, rows, scal, wr64, wr8, tmV, byO]
  (repeat' first | refine hK _ ?_ | apply And.intro) <;> clear hK K <;> try first | (show chkD _ _ = true; kernel_rfl) | omega | rfl | (simp; done) | (simp; omega)
  refine awp_block ?_
  refine awp_seqR (fun K hK => ?_)
  simp (maxSteps := 2000000) (disch := omega) [ints, rows, scal, wr64, wr8, byO]
  (repeat' first | refine hK _ ?_ | apply And.intro) <;> clear hK K <;> try first | (show chkD _ _ = true; kernel_rfl) | omega | rfl | (simp; done) | (simp; omega)
  by_cases e1 : t.op = 1
  · refine awp_cond (b := true) (p := 2) (by simp [scal, e1] <;> omega) ?_
    refine awp_seqR (fun K hK => ?_)
    simp (maxSteps := 2000000) (disch := omega) [ints, rows, scal, wr64, wr8, byO]
    (repeat' first | refine hK _ ?_ | apply And.intro) <;> clear hK K <;> try first | (show chkD _ _ = true; kernel_rfl) | omega | rfl | (simp; done) | (simp; omega)
    refine awp_ret ?_
    rw [if_pos e1]
    refine ⟨⟨.inr rfl, _, [(0, some 0)], (by first | rfl | (simp [ints, rows, scal, byO, bT]; rfl)), ?_, ?_, ?_, ?_⟩, ?_⟩
    all_goals try simp [ints, rows, scal, byO, bT]
  refine awp_cond (b := false) (p := 2) (by simp [scal, e1] <;> omega) ?_
  refine awp_seqR (fun K hK => ?_)
  simp (maxSteps := 2000000) (disch := omega) [ints, rows, scal, wr64, wr8, byO]
  (repeat' first | refine hK _ ?_ | apply And.intro) <;> clear hK K <;> try first | (show chkD _ _ = true; kernel_rfl) | omega | rfl | (simp; done) | (simp; omega)
  by_cases e2 : t.op = 2
  · obtain ⟨hn0, hn1⟩ : 0 ≤ t.n ∧ t.n < 6 := by omega
    have hnm := name_ok hn0 hn1
    refine awp_cond (b := true) (p := 2) (by simp [scal, e2] <;> omega) ?_
    refine awp_seqR (fun K hK => ?_)
    simp (maxSteps := 2000000) (disch := omega) [ints, rows, scal, wr64, wr8, byO]
    (repeat' first | refine hK _ ?_ | apply And.intro) <;> clear hK K <;> try first | (show chkD _ _ = true; kernel_rfl) | omega | rfl | (simp; done) | (simp; omega)
    · exact hn1
    refine awp_ret ?_
    rw [if_neg e1, if_pos e2, ← hnm]
    refine ⟨⟨.inr rfl, _, [(0, some 0)], (by first | rfl | (simp [ints, rows, scal, byO, bT]; rfl)), ?_, ?_, ?_, ?_⟩, ?_⟩
    all_goals try simp [ints, rows, scal, byO, bT]
  refine awp_cond (b := false) (p := 2) (by simp [scal, e2] <;> omega) ?_
  refine awp_seqR (fun K hK => ?_)
  simp (maxSteps := 2000000) (disch := omega) [ints, rows, scal, wr64, wr8, byO]
  (repeat' first | refine hK _ ?_ | apply And.intro) <;> clear hK K <;> try first | (show chkD _ _ = true; kernel_rfl) | omega | rfl | (simp; done) | (simp; omega)
  by_cases e4 : t.op = 4
  · obtain ⟨hn0, hn1, hl1⟩ : -1 ≤ t.n ∧ t.n ≤ 9 ∧ t.args.length = 1 := by omega
    obtain ⟨a, ha⟩ : ∃ a, t.args = [a] := by
      cases h : t.args with
      | nil => rw [h] at hl1; cases hl1
      | cons a r => cases r with
        | nil => exact ⟨a, rfl⟩
        | cons _ _ => rw [h] at hl1; simp at hl1
    rw [ha] at hfl hsz
    have hA := ih a (by rw [ha]; simp) bs true (by simp [szL] at hsz; omega)
    have hfa : fmtL [a] = a.fmt true := by show a.fmt true ++ [] = _; simp
    have hal := fmt_len a true
    have hsa : t.sz = 1 + a.sz := by simp [szL] at hsz; omega
    refine awp_cond (b := true) (p := 2) (by simp [scal, e4] <;> omega) ?_
    refine awp_seqR (fun K hK => ?_)
    simp (maxSteps := 2000000) (disch := omega) [ints, rows, scal, wr64, wr8, byO, ha, cellsL, Tm.cells_eq]
    (repeat' apply And.intro)
    all_goals (try omega)
    refine call_rule (caps := []) (hA) [0] [15000001] 1 rfl rfl rfl rfl (by kernel_rfl) (by simp) ?_ ?_ (by simp) rfl (by simp) ⟨.inl ⟨by omega, by omega⟩, trivial⟩ (by simp [byO, tmV, ha]) ?_
    · simp [scal, rows, ints, byO, tmV, ha]
    · simp [scal, rows, ints, byO, tmV, ha]
    simp (maxSteps := 2000000) (disch := omega) [ints, rows, scal, wr64, wr8, byO]
    (repeat' first | refine hK _ ?_ | apply And.intro) <;> clear hK K <;> try first | (show chkD _ _ = true; kernel_rfl) | omega | rfl | (simp; done) | (simp; omega)
    refine awp_weak (σ' := mkS [(0, .own 0 (bs ++ a.fmt true).length), (4, .ptr 1 0 3)] [(0, byO (bs ++ a.fmt true)), (1, .box 26 [.t 2 (.int .i64 t.op), .t 2 (.int .i64 t.n), .t 0 (.sl 3 (cellsL [a]))])] 2 71 [.any, .any, .any]) ?_ ?_
    · refine wk_list [(0, some 15000001), (1, some 1)] rfl ?_ ?_ ?_ ?_
      all_goals try simp [ints, byO, ha, tmV, cellsL, Tm.cells_eq]
    rw [if_neg e1, if_neg e2, if_pos e4, ha, hfa]
    refine awp_seq ?_
    refine awp_block ?_
    refine awp_seqR (fun K hK => ?_)
    simp (maxSteps := 2000000) (disch := omega) [ints, rows, scal, wr64, wr8, byO]
    (repeat' first | refine hK _ ?_ | apply And.intro) <;> clear hK K <;> try first | (show chkD _ _ = true; kernel_rfl) | omega | rfl | (simp; done) | (simp; omega)
    by_cases e5 : t.n = 0
    · refine awp_cond (b := true) (p := 2) (by simp [scal, e5] <;> omega) ?_
      refine awp_seqR (fun K hK => ?_)
      simp (maxSteps := 2000000) (disch := omega) [ints, rows, scal, wr64, wr8, byO, bsT2]
      (repeat' first | refine hK _ ?_ | apply And.intro) <;> clear hK K <;> try first | (show chkD _ _ = true; kernel_rfl) | omega | rfl | (simp; done) | (simp; omega)
      refine awp_ret ?_
      refine ⟨⟨.inr rfl, _, [(0, some 0)], (by first | rfl | (simp [ints, rows, scal, byO, expB, e5, bT]; rfl)), ?_, ?_, ?_, ?_⟩, ?_⟩
      all_goals try simp [ints, rows, scal, byO, expB, e5, bT]
      all_goals (try omega)
    refine awp_cond (b := false) (p := 2) (by simp [scal, e5] <;> omega) ?_
    refine awp_seqR (fun K hK => ?_)
    simp (maxSteps := 2000000) (disch := omega) [ints, rows, scal, wr64, wr8, byO]
    (repeat' first | refine hK _ ?_ | apply And.intro) <;> clear hK K <;> try first | (show chkD _ _ = true; kernel_rfl) | omega | rfl | (simp; done) | (simp; omega)
    by_cases e6 : t.n < 0
    · refine awp_cond (b := true) (p := 2) (by simp [scal, e6] <;> omega) ?_
      refine awp_seqR (fun K hK => ?_)
      simp (maxSteps := 2000000) (disch := omega) [ints, rows, scal, wr64, wr8, byO, bsT6]
      (repeat' first | refine hK _ ?_ | apply And.intro) <;> clear hK K <;> try first | (show chkD _ _ = true; kernel_rfl) | omega | rfl | (simp; done) | (simp; omega)
      refine awp_ret ?_
      refine ⟨⟨.inr rfl, _, [(0, some 0)], (by first | rfl | (simp [ints, rows, scal, byO, expB, e5, e6, bT]; rfl)), ?_, ?_, ?_, ?_⟩, ?_⟩
      all_goals try simp [ints, rows, scal, byO, expB, e5, e6, bT]
      all_goals (try omega)
    refine awp_cond (b := false) (p := 2) (by simp [scal, e6] <;> omega) ?_
    refine awp_skip ?_
    show awp _ _ _ _
    refine awp_seqR (fun K hK => ?_)
    simp (maxSteps := 2000000) (disch := omega) [ints, rows, scal, wr64, wr8, byO]
    (repeat' first | refine hK _ ?_ | apply And.intro) <;> clear hK K <;> try first | (show chkD _ _ = true; kernel_rfl) | omega | rfl | (simp; done) | (simp; omega)
    refine awp_ret ?_
    refine ⟨⟨.inr rfl, _, [(0, some 0)], (by first | rfl | (simp [ints, rows, scal, byO, expB, e5, e6, bT]; rfl)), ?_, ?_, ?_, ?_⟩, ?_⟩
    all_goals try simp [ints, rows, scal, byO, expB, e5, e6, bT]
    all_goals (try omega)
  refine awp_cond (b := false) (p := 2) (by simp [scal, e4] <;> omega) ?_
  refine awp_skip ?_
  show awp _ _ _ _
  rw [if_neg e1, if_neg e2, if_neg e4]
  refine awp_seq (awp_mono (Q := fun e σ => e = Exit.normal ∧ Wk σ (mkS [(0, .own 0 (bs ++ (if inner then [40] else [])).length), (2, .t 2 (.bool inner)), (4, .ptr 1 0 3)] [(0, byO (bs ++ (if inner then [40] else []))), (1, .box 26 [.t 2 (.int .i64 t.op), .t 2 (.int .i64 t.n), .t 0 (.sl 3 (cellsL t.args))])] 2 71 [.any, .any, .any])) ?_ ?_)
  · refine awp_seqR (fun K hK => ?_)
    simp (maxSteps := 2000000) (disch := omega) [ints, rows, scal, wr64, wr8, byO]
    (repeat' first | refine hK _ ?_ | apply And.intro) <;> clear hK K <;> try first | (show chkD _ _ = true; kernel_rfl) | omega | rfl | (simp; done) | (simp; omega)
    cases inner with
    | true =>
      refine awp_cond (b := true) (p := 2) (by simp [scal] <;> omega) ?_
      refine awp_R (fun K hK => ?_)
      simp (maxSteps := 2000000) (disch := omega) [ints, rows, scal, wr64, wr8, byO]
      (repeat' first | refine hK _ ?_ | apply And.intro) <;> clear hK K <;> try first | (show chkD _ _ = true; kernel_rfl) | omega | rfl | (simp; done) | (simp; omega)
      refine wk_list [(0, some 0), (1, some 1)] rfl ?_ ?_ ?_ ?_
      all_goals try simp [ints, byO, bT, tmV]
    | false =>
      refine awp_cond (b := false) (p := 2) (by simp [scal] <;> omega) ?_
      refine awp_skip ?_
      refine ⟨rfl, ?_⟩
      refine wk_list [(0, some 0), (1, some 1)] rfl ?_ ?_ ?_ ?_
      all_goals try simp [ints, byO, bT, tmV]
  rintro e σ ⟨rfl, hw⟩
  refine awp_weak hw ?_
  clear hw
  show awp _ _ _ _
  generalize hpre : bs ++ (if inner then [40] else []) = pre
  have hpl : pre.length ≤ bs.length + 1 := by rw [← hpre]; cases inner <;> simp
  have htot : bs ++ ((if inner then [40] else []) ++ fmtL t.args ++ (if inner then [41] else [])) = pre ++ fmtL t.args ++ (if inner then [41] else []) := by
    rw [← hpre]; simp
  rw [htot]
  refine awp_seq ?_
  refine awp_seqR (fun K hK => ?_)
  simp (maxSteps := 2000000) (disch := omega) [ints, rows, scal, wr64, wr8, byO]
  (repeat' first | refine hK _ ?_ | apply And.intro) <;> clear hK K <;> try first | (show chkD _ _ = true; kernel_rfl) | omega | rfl | (simp; done) | (simp; omega)
  refine awp_block ?_
  refine awp_loop (fun k : Nat => mkS [(0, .own 0 (pre ++ fmtL (t.args.take k)).length), (2, .t 2 (.bool inner)), (56, .t 0 (.sl 3 (cellsL t.args))), (57, .t 2 (.int .i64 t.args.length)), (58, .t 2 (.int .i64 k))] [(0, byO (pre ++ fmtL (t.args.take k)))] 1 71 [.any, .any, .any]) (fun k => k ≤ t.args.length) (fun k => t.args.length - k) ?_ ?_
  · refine ⟨0, by omega, ?_⟩
    refine wk_list [(0, some 0)] rfl ?_ ?_ ?_ ?_
    all_goals try simp [ints, byO, fmtL]
  intro k hk
  have hflk := fmtL_len (t.args.take k)
  have hslk := szL_take_le t.args k
  refine awp_seqR (fun K hK => ?_)
  simp (maxSteps := 2000000) (disch := omega) [ints, rows, scal, wr64, wr8, byO]
  (repeat' first | refine hK _ ?_ | apply And.intro) <;> clear hK K <;> try first | (show chkD _ _ = true; kernel_rfl) | omega | rfl | (simp; done) | (simp; omega)
  refine awp_seq ?_
  by_cases hkl : k < t.args.length
  · obtain ⟨a, ha⟩ : ∃ a, a = t.args[k] := ⟨_, rfl⟩
    have hcut := cellsL_cut t.args k hkl
    rw [← ha, Tm.cells_eq] at hcut
    have ham : a ∈ t.args := by rw [ha]; exact List.getElem_mem hkl
    have htf := take_fmt hkl
    have hts := take_sz hkl
    rw [← ha] at htf hts
    have hslk1 := szL_take_le t.args (k + 1)
    have hA := ih a ham (pre ++ fmtL (t.args.take k)) true (by rw [List.length_append]; omega)
    refine awp_cond (b := true) (p := 2) (by simp [scal, hkl] <;> omega) ?_
    refine awp_skip ?_
    show awp _ _ _ _
    refine awp_seq ?_
    refine awp_block ?_
    refine awp_seqR (fun K hK => ?_)
    simp (maxSteps := 2000000) (disch := omega) [ints, rows, scal, wr64, wr8, hcut, hkl, byO]
    (repeat' first | refine hK _ ?_ | apply And.intro) <;> clear hK K <;> try first | (show chkD _ _ = true; kernel_rfl) | omega | rfl | (simp; done) | (simp; omega)
    refine awp_R (fun K hK => ?_)
    simp (maxSteps := 2000000) (disch := omega) [ints, rows, scal, wr64, wr8, byO]
    (repeat' apply And.intro)
    all_goals (try omega)
    refine call_rule (caps := []) (hA) [0] [7000001] 1 rfl rfl rfl rfl (by kernel_rfl) (by simp) ?_ ?_ (by simp) rfl (by simp) ⟨.inl ⟨by omega, by omega⟩, trivial⟩ (by simp [byO, tmV]) ?_
    · simp [scal, rows, ints, byO, tmV]
    · simp [scal, rows, ints, byO, tmV]
    simp (maxSteps := 2000000) (disch := omega) [ints, rows, scal, wr64, wr8, byO]
    (repeat' first | refine hK _ ?_ | apply And.intro) <;> clear hK K <;> try first | (show chkD _ _ = true; kernel_rfl) | omega | rfl | (simp; done) | (simp; omega)
    show awp _ _ _ _
    refine awp_R (fun K hK => ?_)
    simp (maxSteps := 2000000) (disch := omega) [ints, rows, scal, wr64, wr8, byO]
    (repeat' first | refine hK _ ?_ | apply And.intro) <;> clear hK K <;> try first | (show chkD _ _ = true; kernel_rfl) | omega | rfl | (simp; done) | (simp; omega)
    refine ⟨k + 1, by omega, by omega, ?_⟩
    refine wk_list [(0, some 7000001)] rfl ?_ ?_ ?_ ?_
    all_goals try simp [ints, byO, htf]
  · obtain rfl : k = t.args.length := by omega
    rw [List.take_length] at hflk ⊢
    refine awp_cond (b := false) (p := 2) (by simp [scal] <;> omega) ?_
    refine awp_exit ?_
    show awp _ _ _ _
    refine awp_seq ?_
    refine awp_seqR (fun K hK => ?_)
    simp (maxSteps := 2000000) (disch := omega) [ints, rows, scal, wr64, wr8, byO]
    (repeat' first | refine hK _ ?_ | apply And.intro) <;> clear hK K <;> try first | (show chkD _ _ = true; kernel_rfl) | omega | rfl | (simp; done) | (simp; omega)
    cases inner with
    | true =>
      refine awp_cond (b := true) (p := 2) (by simp [scal] <;> omega) ?_
      refine awp_R (fun K hK => ?_)
      simp (maxSteps := 2000000) (disch := omega) [ints, rows, scal, wr64, wr8, byO]
      (repeat' first | refine hK _ ?_ | apply And.intro) <;> clear hK K <;> try first | (show chkD _ _ = true; kernel_rfl) | omega | rfl | (simp; done) | (simp; omega)
      show awp _ _ _ _
      refine awp_seqR (fun K hK => ?_)
      simp (maxSteps := 2000000) (disch := omega) [ints, rows, scal, wr64, wr8, byO]
      (repeat' first | refine hK _ ?_ | apply And.intro) <;> clear hK K <;> try first | (show chkD _ _ = true; kernel_rfl) | omega | rfl | (simp; done) | (simp; omega)
      refine awp_ret ?_
      refine ⟨⟨.inr rfl, _, [(0, some 0)], (by first | rfl | (simp [ints, rows, scal, byO, bT]; rfl)), ?_, ?_, ?_, ?_⟩, ?_⟩
      all_goals try simp [ints, rows, scal, byO, bT]
      all_goals (try omega)
    | false =>
      refine awp_cond (b := false) (p := 2) (by simp [scal] <;> omega) ?_
      refine awp_skip ?_
      show awp _ _ _ _
      refine awp_seqR (fun K hK => ?_)
      simp (maxSteps := 2000000) (disch := omega) [ints, rows, scal, wr64, wr8, byO]
      (repeat' first | refine hK _ ?_ | apply And.intro) <;> clear hK K <;> try first | (show chkD _ _ = true; kernel_rfl) | omega | rfl | (simp; done) | (simp; omega)
      refine awp_ret ?_
      refine ⟨⟨.inr rfl, _, [(0, some 0)], (by first | rfl | (simp [ints, rows, scal, byO, bT]; rfl)), ?_, ?_, ?_, ?_⟩, ?_⟩
      all_goals try simp [ints, rows, scal, byO, bT]
theorem append_fn : ∀ t : Tm, t.ok = true → AppS t := by
  intro t
  induction hsz : t.sz using Nat.strongRecOn generalizing t with
  | _ q ih =>
  intro ho bs inner hb
  have hargs : ∀ a ∈ t.args, AppS a := fun a ha => by
    have h1 := sz_arg ha
    rw [ok_eq, Bool.and_eq_true] at ho
    exact ih a.sz (by omega) a rfl (okL'_all.1 ho.2 a ha)
  refine fn_intro Try.func49 rfl (by simp [Try.f49]) ?_
  refine awp_weak ?_ (app_body t ho hargs bs inner hb _ rfl)
  rw [show Try.f49.ntmps = 71 from rfl]
  refine wk_list [(0, some 0)] rfl ?_ ?_ ?_ ?_
  all_goals try simp [ints, byO, tmV]
theorem append_nil_fn (t : Tm) (ho : t.ok = true) (inner : Bool) (hb : 8 * t.sz ≤ 1000000) : FnS Try.prog 49 [.t 0 (.sl 0 []), tmV 0 t, .t 2 (.bool inner)] [] (.own 0 (t.fmt inner).length) [byO (t.fmt inner)] := by
  have hargs : ∀ a ∈ t.args, AppS a := fun a ha => by
    rw [ok_eq, Bool.and_eq_true] at ho
    exact append_fn a (okL'_all.1 ho.2 a ha)
  refine fn_intro Try.func49 rfl (by simp [Try.f49]) ?_
  have h := app_body t ho hargs [] inner (by simpa using hb) _ rfl
  rw [List.nil_append] at h
  rw [show Try.f49.ntmps = 71 from rfl]
  refine awp_weak (σ' := mkS [(0, .own 0 ([] : List Int).length), (1, tmV 0 t), (2, .t 2 (.bool inner))] [(0, byO [])] 1 71 [.any, .any, .any]) ?_ h
  refine wk_list [(0, none)] rfl ?_ ?_ ?_ ?_
  all_goals try simp [ints, byO, tmV, bT]
theorem bT_u8 (bs : List Int) : (bT bs).all isU8 = true := by
  simp [bT, isU8]
/-- Numbers as a string. -/
def toB (bs : List Int) : ByteArray := bytesT (bT bs)
theorem bytesT_fold : ∀ (cs : List T) (r : ByteArray), cs.foldl (fun r c => r.push (UInt8.ofNat (u8n c).toNat)) r = ⟨r.data ++ (cs.map fun c => UInt8.ofNat (u8n c).toNat).toArray⟩
  | [], r => by simp
  | c :: cs, r => by
    rw [List.foldl_cons, bytesT_fold cs]
    congr 1
    simp [ByteArray.push]
theorem toB_eq (bs : List Int) : toB bs = ⟨(bs.map fun c => UInt8.ofNat c.toNat).toArray⟩ := by
  unfold toB bytesT
  rw [bytesT_fold]
  congr 1
  unfold bT
  rw [List.map_map]
  exact Array.empty_append
theorem toB_size (bs : List Int) : (toB bs).size = bs.length := by
  rw [toB_eq]
  show (bs.map _).toArray.size = _
  simp
def fmtS (t : Tm) : ByteArray := if t.val = true then toB (t.fmt false) else ⟨#[]⟩
def eqB : ByteArray := ⟨#[32, 61, 32]⟩
def idS (a b : Tm) : ByteArray := if a.val = true ∧ b.val = true then fmtS a ++ eqB ++ fmtS b else ⟨#[]⟩
theorem val_ok {t : Tm} (h : t.val = true) : t.ok = true ∧ t.sz ≤ 60 := by
  unfold Tm.val at h
  rw [Bool.and_eq_true, decide_eq_true_iff] at h
  exact h
theorem fmtS_len (t : Tm) : (fmtS t).size ≤ 480 := by
  unfold fmtS
  split
  · rename_i h
    have := fmt_len t false
    have := (val_ok h).2
    rw [toB_size]; omega
  · show 0 ≤ 480
    omega
set_option maxRecDepth 100000 in
set_option maxHeartbeats 4000000 in
theorem format_fn (t : Tm) : FnA Try.prog 21 [tmV 0 t] (.t 2 (.str (fmtS t))) := by
  have hv := oValidate_fn t
  refine fn_intro Try.func21 rfl (by simp [Try.f21]) ?_
  rw [show Try.f21.ntmps = 9 from rfl, show Try.f21.results = #[.tmp 2] from rfl]
  refine awp_seqR (fun K hK => ?_)
  simp (maxSteps := 2000000) (disch := omega) [ints, rows, scal, wr64, wr8, tmV]
  (repeat' first | refine hK _ ?_ | apply And.intro) <;> clear hK K <;> try first | (show chkD _ _ = true; kernel_rfl) | omega | rfl | (simp; done) | (simp; omega)
  refine awp_seq ?_
  refine awp_seqR (fun K hK => ?_)
  simp (maxSteps := 2000000) (disch := omega) [ints, rows, scal, wr64, wr8]
  (repeat' apply And.intro)
  all_goals (try omega)
  refine call_rule (caps := []) (hv) [] [] 2 rfl rfl rfl rfl (by kernel_rfl) (by simp) ?_ trivial trivial rfl trivial trivial (by simp) ?_
  · simp [scal, rows, ints, tmV]
  simp (maxSteps := 2000000) (disch := omega) [ints, rows, scal, wr64, wr8]
  (repeat' first | refine hK _ ?_ | apply And.intro) <;> clear hK K <;> try first | (show chkD _ _ = true; kernel_rfl) | omega | rfl | (simp; done) | (simp; omega)
  by_cases e : t.val = true
  · have h0 : vTm t = 0 := by unfold vTm; rw [if_pos e]
    have ha := append_nil_fn t (val_ok e).1 false (by have := (val_ok e).2; omega)
    have hu := bT_u8 (t.fmt false)
    have hf : bytesT (bT (t.fmt false)) = fmtS t := by unfold fmtS; rw [if_pos e]; rfl
    refine awp_cond (b := false) (p := 2) (by simp [scal, h0] <;> omega) ?_
    refine awp_skip ?_
    show awp _ _ _ _
    refine awp_seqR (fun K hK => ?_)
    simp (maxSteps := 2000000) (disch := omega) [ints, rows, scal, wr64, wr8]
    (repeat' apply And.intro)
    all_goals (try omega)
    refine call_rule (caps := []) (ha) [] [6000000] 2 rfl rfl rfl rfl (by kernel_rfl) (by simp) ?_ ?_ (by simp) rfl (by simp) ⟨.inl ⟨by omega, by omega⟩, trivial⟩ (by simp [tmV, byO]) ?_
    · simp [scal, rows, ints, tmV, byO]
    · trivial
    simp (maxSteps := 2000000) (disch := omega) [ints, rows, scal, wr64, wr8, byO, hu, hf]
    (repeat' first | refine hK _ ?_ | apply And.intro) <;> clear hK K <;> try first | (show chkD _ _ = true; kernel_rfl) | omega | rfl | (simp; done) | (simp; omega)
    refine awp_ret ?_
    refine ⟨⟨.inr rfl, _, [], rfl, trivial, trivial, by simp [tmV], ?_⟩, by simp [tmV]⟩
    simp [tmV]
  · have h0 : vTm t = 21 := by unfold vTm; rw [if_neg e]
    have hf : fmtS t = ⟨#[]⟩ := by unfold fmtS; rw [if_neg e]
    refine awp_cond (b := true) (p := 2) (by simp [scal, h0] <;> omega) ?_
    refine awp_seqR (fun K hK => ?_)
    simp (maxSteps := 2000000) (disch := omega) [ints, rows, scal, wr64, wr8]
    (repeat' first | refine hK _ ?_ | apply And.intro) <;> clear hK K <;> try first | (show chkD _ _ = true; kernel_rfl) | omega | rfl | (simp; done) | (simp; omega)
    refine awp_ret ?_
    refine ⟨⟨.inr rfl, _, [], rfl, trivial, trivial, by simp [hf, tmV, idV], ?_⟩, by simp [hf, tmV, idV]⟩
    simp [hf, tmV, idV]
end Go.Proofs.Ytghnmmfkckneaaa.M

namespace Go.Proofs.Ytghnmmfkckneaaa.M
open Go.RowKit
set_option linter.unusedVariables false
set_option linter.unusedSimpArgs false

/-- The text l stands in s at pos. -/
def Txt (s : ByteArray) (pos : Nat) (l : List Int) : Prop := pos + l.length ≤ s.size ∧ ∀ (i : Nat) (h : i < l.length), byteAt s (pos + i) = l[i]
theorem Txt.left {s : ByteArray} {pos : Nat} {l r : List Int} (h : Txt s pos (l ++ r)) : Txt s pos l := by
  obtain ⟨h1, h2⟩ := h
  rw [List.length_append] at h1
  exact ⟨by omega, fun i hi => by
    rw [h2 i (by rw [List.length_append]; omega), List.getElem_append_left hi]⟩
theorem Txt.right {s : ByteArray} {pos : Nat} {l r : List Int} (h : Txt s pos (l ++ r)) : Txt s (pos + l.length) r := by
  obtain ⟨h1, h2⟩ := h
  rw [List.length_append] at h1
  exact ⟨by omega, fun i hi => by
    rw [Nat.add_assoc, h2 (l.length + i) (by rw [List.length_append]; omega), List.getElem_append_right (by omega)]
    simp⟩
theorem Txt.at {s : ByteArray} {pos : Nat} {c : Int} {r : List Int} (h : Txt s pos (c :: r)) : pkB s pos = c ∧ pos < s.size ∧ Txt s (pos + 1) r := by
  obtain ⟨h1, h2⟩ := h
  rw [List.length_cons] at h1
  refine ⟨?_, by omega, by omega, fun i hi => ?_⟩
  · unfold pkB
    rw [if_neg (by omega)]
    exact h2 0 (by simp)
  · have := h2 (i + 1) (by simpa using hi)
    rw [show pos + 1 + i = pos + (i + 1) by omega, this]
    rfl
theorem skip_id {s : ByteArray} {pos : Nat} (hp : pos ≤ s.size) (h : pkB s pos ≠ 32) : skipS s pos = pos := by
  rw [skipS_eq hp, if_neg h]
theorem begB_ne {c : Int} (h : begB c = true) : c ≠ 94 ∧ c ≠ 32 := by
  refine ⟨fun e => ?_, fun e => ?_⟩ <;> subst e <;> revert h <;> decide
theorem wf_cases {t : Tm} (h : t.wf = true) : (t.op = 1 ∧ t.n = 0 ∧ t.args = []) ∨ (t.op = 2 ∧ 0 ≤ t.n ∧ t.n < 6 ∧ t.args = []) ∨ (t.op = 3 ∧ t.n = 0 ∧ 2 ≤ t.args.length) ∨ (t.op = 4 ∧ -1 ≤ t.n ∧ t.n ≤ 9 ∧ ∃ a, t.args = [a]) := by
  unfold Tm.wf at h
  have h := of_decide_eq_true h
  rcases h with ⟨a, b, c⟩ | ⟨a, b, c, d⟩ | ⟨a, b, c⟩ | ⟨a, b, c, d⟩
  · exact .inl ⟨a, b, List.eq_nil_of_length_eq_zero c⟩
  · exact .inr (.inl ⟨a, b, c, List.eq_nil_of_length_eq_zero d⟩)
  · exact .inr (.inr (.inl ⟨a, b, c⟩))
  · exact .inr (.inr (.inr ⟨a, b, c, List.length_eq_one_iff.1 d⟩))
theorem ok_parts {t : Tm} (h : t.ok = true) : t.wf = true ∧ ∀ a ∈ t.args, a.ok = true := by
  rw [ok_eq, Bool.and_eq_true] at h
  exact ⟨h.1, okL'_all.1 h.2⟩
theorem name_cases {n : Int} (h0 : 0 ≤ n) (h1 : n < 6) : begB (nameB n) = true ∧ varI (nameB n) = n ∧ nameB n ≠ 49 ∧ nameB n ≠ 40 := by
  obtain rfl | rfl | rfl | rfl | rfl | rfl : n = 0 ∨ n = 1 ∨ n = 2 ∨ n = 3 ∨ n = 4 ∨ n = 5 := by omega
  all_goals decide +kernel
theorem fmt_1 {t : Tm} (h : t.op = 1) (b : Bool) : t.fmt b = [49] := by rw [fmt_eq, if_pos h]
theorem fmt_2 {t : Tm} (h : t.op = 2) (b : Bool) : t.fmt b = [nameB t.n] := by rw [fmt_eq, if_neg (by omega), if_pos h]
theorem fmt_4 {t a : Tm} (h : t.op = 4) (ha : t.args = [a]) (b : Bool) : t.fmt b = a.fmt true ++ expB t.n := by
  rw [fmt_eq, if_neg (by omega), if_neg (by omega), if_pos h, ha]
  show (a.fmt true ++ []) ++ _ = _
  rw [List.append_nil]
theorem fmt_3 {t : Tm} (h : t.op = 3) : t.fmt true = 40 :: (fmtL t.args ++ [41]) := by
  rw [fmt_eq, if_neg (by omega), if_neg (by omega), if_neg (by omega)]
  rfl
theorem fmt_3f {t : Tm} (h : t.op = 3) : t.fmt false = fmtL t.args := by
  rw [fmt_eq, if_neg (by omega), if_neg (by omega), if_neg (by omega)]
  simp
theorem fmt_beg : ∀ (k : Nat) (t : Tm), t.sz ≤ k → t.ok = true → ∃ c r, t.fmt true = c :: r ∧ begB c = true
  | 0, t, hk, ho => by have := sz_pos t; omega
  | k + 1, t, hk, ho => by
    obtain ⟨hw, ha⟩ := ok_parts ho
    rcases wf_cases hw with ⟨h, -, -⟩ | ⟨h, h0, h1, -⟩ | ⟨h, -, -⟩ | ⟨h, -, -, a, e⟩
    · exact ⟨49, [], fmt_1 h true, by decide⟩
    · exact ⟨_, [], fmt_2 h true, (name_cases h0 h1).1⟩
    · exact ⟨40, _, fmt_3 h, by decide⟩
    · have hm : a ∈ t.args := by rw [e]; simp
      have := sz_arg hm
      obtain ⟨c, r, e1, e2⟩ := fmt_beg k a (by omega) (ha a hm)
      exact ⟨c, r ++ expB t.n, by rw [fmt_4 h e, e1]; rfl, e2⟩
/-- What reading a term's inner text does: the exponents behind it are read on. -/
def RdF (P : Nat → PR) (s : ByteArray) (pos q : Nat) (t : Tm) : Prop :=
  (atomP P s pos).2.1 = true ∧ expsP s (s.size + 1 - skipS s (atomP P s pos).2.2) (skipS s (atomP P s pos).2.2) (atomP P s pos).1 = expsP s (s.size + 1 - q) q t
theorem factor_rd {P : Nat → PR} {s : ByteArray} {pos q : Nat} {t : Tm} (h : RdF P s pos q t) (hq : q ≤ s.size) (h94 : pkB s q ≠ 94) : factorP P s pos = (t, true, q) := by
  obtain ⟨h1, h2⟩ := h
  unfold factorP
  rw [if_neg (by rw [h1]; decide), h2, show s.size + 1 - q = (s.size - q) + 1 by omega, expsP_succ, if_neg h94]
theorem facts_rd {s : ByteArray} {f : Nat} {q : Nat} (hqs : q ≤ s.size) (hq1 : begB (pkB s q) = false) (hq2 : pkB s q ≠ 94) (hq3 : pkB s q ≠ 32) : ∀ (l : List Tm) (acc : List Tm) (g pos : Nat),
    (∀ a ∈ l, a.ok = true ∧ ∀ p, pos ≤ p → Txt s p (a.fmt true) → pkB s (p + (a.fmt true).length) ≠ 32 → RdF (termP s f) s p (p + (a.fmt true).length) a) →
    acc ++ l ≠ [] → Txt s pos (fmtL l) → pos + (fmtL l).length = q → s.size - pos < g →
    factsP (termP s f) s g pos acc = (if (acc ++ l).length = 1 then (acc ++ l).getD 0 .zero else .mk 3 0 (acc ++ l), true, q)
  | [], acc, 0, pos, ha, hne, ht, hl, hg => by omega
  | [], acc, g + 1, pos, ha, hne, ht, hl, hg => by
    have hl : pos = q := by simpa [fmtL] using hl
    subst hl
    rw [List.append_nil] at hne ⊢
    rw [factsP_succ, if_neg (by
      rintro (h | h)
      · exact hne (List.eq_nil_of_length_eq_zero h)
      · rw [hq1] at h; cases h)]
  | a :: l, acc, 0, pos, ha, hne, ht, hl, hg => by omega
  | a :: l, acc, g + 1, pos, ha, hne, ht, hl, hg => by
    obtain ⟨ho, hr⟩ := ha a (by simp)
    obtain ⟨c, r, ec, hc⟩ := fmt_beg a.sz a (Nat.le_refl _) ho
    have ht : Txt s pos (a.fmt true ++ fmtL l) := ht
    have hl : pos + (a.fmt true ++ fmtL l).length = q := hl
    rw [List.length_append] at hl
    have h1 := ht.left
    have h2 := ht.right
    have hlen : 1 ≤ (a.fmt true).length := by rw [ec]; simp
    obtain ⟨b1, b2, -⟩ := (show Txt s pos (c :: r) by rw [← ec]; exact h1).at
    have hend : pkB s (pos + (a.fmt true).length) ≠ 94 ∧ pkB s (pos + (a.fmt true).length) ≠ 32 := by
      cases l with
      | nil =>
        have : pos + (a.fmt true).length = q := by simpa [fmtL] using hl
        rw [this]; exact ⟨hq2, hq3⟩
      | cons b l =>
        obtain ⟨d, r', ed, hd⟩ := fmt_beg b.sz b (Nat.le_refl _) (ha b (by simp)).1
        have h3 : Txt s (pos + (a.fmt true).length) (b.fmt true ++ fmtL l) := h2
        have h4 := h3.left
        rw [ed] at h4
        rw [h4.at.1]
        exact begB_ne hd
    have hle : pos + (a.fmt true).length ≤ s.size := h1.1
    have hf := factor_rd (hr pos (Nat.le_refl _) h1 hend.2) hle hend.1
    rw [factsP_succ, if_pos (.inr (by rw [b1]; exact hc)), hf]
    simp only [Bool.true_eq_false, if_false]
    rw [skip_id hle hend.2]
    have := facts_rd hqs hq1 hq2 hq3 l (acc ++ [a]) g (pos + (a.fmt true).length) (fun b hb => ⟨(ha b (by simp [hb])).1, fun p hp => (ha b (by simp [hb])).2 p (by omega)⟩) (by simp) h2 (by omega) (by omega)
    rw [this, List.append_assoc]
    rfl
theorem expB_pos (n : Int) : 1 ≤ (expB n).length := by
  unfold expB
  split
  · simp
  · split <;> simp
theorem rd_exp {s : ByteArray} {pos : Nat} {n : Int} (h0 : -1 ≤ n) (h9 : n ≤ 9) (h : Txt s pos (expB n)) : pkB s pos = 94 ∧ expS s (pos + 1) = (n, true, pos + (expB n).length) := by
  unfold expB at h ⊢
  by_cases e0 : n = 0
  · subst e0
    rw [if_pos rfl] at h ⊢
    obtain ⟨a1, -, h⟩ := h.at
    obtain ⟨a2, -, h⟩ := h.at
    refine ⟨a1, ?_⟩
    unfold expS
    rw [if_pos a2]
    rfl
  rw [if_neg e0] at h ⊢
  by_cases e1 : n < 0
  · obtain rfl : n = -1 := by omega
    rw [if_pos e1] at h ⊢
    obtain ⟨a1, -, h⟩ := h.at
    obtain ⟨a2, -, h⟩ := h.at
    obtain ⟨a3, -, h⟩ := h.at
    obtain ⟨a4, -, h⟩ := h.at
    obtain ⟨a5, -, h⟩ := h.at
    obtain ⟨a6, -, h⟩ := h.at
    refine ⟨a1, ?_⟩
    unfold expS
    rw [if_neg (by omega), if_neg (by omega), if_neg (by omega), if_pos a4, if_neg (by omega), if_neg (by omega)]
    rfl
  · rw [if_neg e1] at h ⊢
    obtain ⟨a1, -, h⟩ := h.at
    obtain ⟨a2, -, h⟩ := h.at
    obtain ⟨a3, -, h⟩ := h.at
    obtain ⟨a4, -, h⟩ := h.at
    obtain ⟨a5, -, h⟩ := h.at
    obtain ⟨a6, -, h⟩ := h.at
    refine ⟨a1, ?_⟩
    unfold expS
    rw [if_neg (by omega), if_neg (by omega), if_neg (by omega), if_neg (by omega), if_neg (by omega), if_neg (by omega), if_neg (by omega), a5]
    rw [show 48 + n - 48 = n by omega]
    rfl
theorem rd {s : ByteArray} : ∀ (k : Nat) (t : Tm), t.sz ≤ k → t.ok = true → ∀ (f pos : Nat), Txt s pos (t.fmt true) → s.size ≤ f + pos → pkB s (pos + (t.fmt true).length) ≠ 32 → RdF (termP s f) s pos (pos + (t.fmt true).length) t
  | 0, t, hk, ho => by have := sz_pos t; omega
  | k + 1, t, hk, ho => by
    obtain ⟨hw, ha⟩ := ok_parts ho
    intro f pos ht hf h32
    have hle : pos + (t.fmt true).length ≤ s.size := ht.1
    obtain ⟨o, n, l⟩ := t
    rcases wf_cases hw with ⟨h, hn, e⟩ | ⟨h, h0, h1, e⟩ | ⟨h, hn, hl⟩ | ⟨h, hn, hn9, a, e⟩
    · rw [fmt_1 h] at ht hle h32 ⊢
      obtain ⟨b1, b2, -⟩ := ht.at
      have h : o = 1 := h
      have hn : n = 0 := hn
      have e : l = [] := e
      subst h hn e
      have hat : atomP (termP s f) s pos = (.mk 1 0 [], true, pos + 1) := by
        unfold atomP
        rw [b1, if_neg (by decide), if_pos rfl]
      unfold RdF
      rw [hat]
      refine ⟨rfl, ?_⟩
      rw [skip_id (show pos + 1 ≤ s.size by omega) h32]
      rfl
    · rw [fmt_2 h] at ht hle h32 ⊢
      obtain ⟨b1, b2, -⟩ := ht.at
      obtain ⟨c1, c2, c3, c4⟩ := name_cases h0 h1
      have h : o = 2 := h
      have e : l = [] := e
      subst h e
      have hat : atomP (termP s f) s pos = (.mk 2 n [], true, pos + 1) := by
        unfold atomP
        rw [b1, if_neg (by rw [c1]; decide), if_neg c3, if_neg c4, c2]
        rfl
      unfold RdF
      rw [hat]
      refine ⟨rfl, ?_⟩
      rw [skip_id (show pos + 1 ≤ s.size by omega) h32]
      rfl
    · rw [fmt_3 h] at ht hle h32 ⊢
      obtain ⟨b1, b2, h1⟩ := ht.at
      have h : o = 3 := h
      have hn : n = 0 := hn
      subst h hn
      have hl : 2 ≤ l.length := hl
      have ha : ∀ a ∈ l, a.ok = true := ha
      have h1 : Txt s (pos + 1) (fmtL l ++ [41]) := h1
      have h2 := h1.left
      obtain ⟨b3, b4, -⟩ := h1.right.at
      have hle : pos + (40 :: (fmtL l ++ [41])).length ≤ s.size := hle
      rw [List.length_cons, List.length_append] at hle
      obtain ⟨f, rfl⟩ : ∃ g, f = g + 1 := ⟨f - 1, by omega⟩
      have hsk : pkB s (pos + 1) ≠ 32 := by
        cases l with
        | nil => simp at hl
        | cons a l =>
          obtain ⟨d, r', ed, hd⟩ := fmt_beg a.sz a (Nat.le_refl _) (ha a (by simp))
          have h4 : Txt s (pos + 1) (a.fmt true ++ fmtL l) := h2
          have h4 := h4.left
          rw [ed] at h4
          rw [h4.at.1]
          exact (begB_ne hd).2
      have hfa := facts_rd (s := s) (f := f) (q := pos + 1 + (fmtL l).length) (by omega) (by rw [b3]; decide) (by rw [b3]; decide) (by rw [b3]; decide) l [] (s.size + 2 - (pos + 1)) (pos + 1) (fun a hm => ⟨ha a hm, fun p hp hx hy => by
        have : a.sz < (Tm.mk 3 0 l).sz := sz_arg hm
        exact rd k a (by omega) (ha a hm) f p hx (by omega) hy⟩) (by intro h; rw [List.nil_append] at h; rw [h] at hl; simp at hl) h2 rfl (by omega)
      rw [List.nil_append, if_neg (by omega)] at hfa
      have htm : termP s (f + 1) (pos + 1) = (.mk 3 0 l, true, pos + 1 + (fmtL l).length) := by
        rw [termP_succ, skip_id (by omega) hsk, hfa]
      have hat : atomP (termP s (f + 1)) s pos = (.mk 3 0 l, true, pos + 1 + (fmtL l).length + 1) := by
        unfold atomP
        rw [b1, if_neg (by decide), if_neg (by decide), if_pos rfl, htm]
        simp only [Bool.true_eq_false, if_false]
        rw [if_pos b3]
      have hq : pos + (40 :: (fmtL (Tm.mk 3 0 l).args ++ [41])).length = pos + 1 + (fmtL l).length + 1 := by
        show pos + (40 :: (fmtL l ++ [41])).length = _
        rw [List.length_cons, List.length_append, List.length_singleton]; omega
      rw [hq] at h32 ⊢
      unfold RdF
      rw [hat]
      refine ⟨rfl, ?_⟩
      rw [skip_id (show pos + 1 + (fmtL l).length + 1 ≤ s.size by simp only [List.length_singleton] at hle; omega) h32]
    · rw [fmt_4 h e] at ht hle h32 ⊢
      have h : o = 4 := h
      have e : l = [a] := e
      have hn : -1 ≤ n := hn
      have hn9 : n ≤ 9 := hn9
      subst h e
      have ha : ∀ b ∈ [a], b.ok = true := ha
      have ha := ha a (by simp)
      have hsz : a.sz < (Tm.mk 4 n [a]).sz := sz_arg (t := .mk 4 n [a]) (by show a ∈ [a]; simp)
      have ht : Txt s pos (a.fmt true ++ expB n) := ht
      have h32 : pkB s (pos + (a.fmt true ++ expB n).length) ≠ 32 := h32
      have hle : pos + (a.fmt true ++ expB n).length ≤ s.size := hle
      show RdF (termP s f) s pos (pos + (a.fmt true ++ expB n).length) _
      rw [List.length_append] at h32 hle ⊢
      obtain ⟨b1, b2⟩ := rd_exp (n := n) hn hn9 ht.right
      obtain ⟨r1, r2⟩ := rd k a (by omega) ha f pos ht.left hf (by rw [b1]; decide)
      refine ⟨r1, ?_⟩
      have hpos := expB_pos n
      rw [r2, show s.size + 1 - (pos + (a.fmt true).length) = (s.size - (pos + (a.fmt true).length)) + 1 by omega, expsP_succ, if_pos b1, b2]
      simp only [Bool.true_eq_false, if_false]
      rw [← Nat.add_assoc] at h32 ⊢
      rw [skip_id (by omega) h32]
      exact expsP_fuel _ _ _ _ (by omega) (by omega) (by omega)
theorem term_rd {s : ByteArray} {t : Tm} (ho : t.ok = true) (hs : s.size = (t.fmt false).length) (ht : Txt s 0 (t.fmt false)) : termP s (s.size + 1) 0 = (t, true, s.size) := by
  have hz : pkB s s.size = 0 := by unfold pkB; rw [if_pos rfl]
  have key : ∀ l : List Tm, (∀ a ∈ l, a.ok = true) → l ≠ [] → Txt s 0 (fmtL l) → s.size = (fmtL l).length → termP s (s.size + 1) 0 = (if l.length = 1 then l.getD 0 .zero else .mk 3 0 l, true, s.size) := by
    intro l ha hne h2 hl
    have hsk : pkB s 0 ≠ 32 := by
      cases l with
      | nil => exact absurd rfl hne
      | cons a l =>
        obtain ⟨d, r', ed, hd⟩ := fmt_beg a.sz a (Nat.le_refl _) (ha a (by simp))
        have h4 : Txt s 0 (a.fmt true ++ fmtL l) := h2
        have h4 := h4.left
        rw [ed] at h4
        rw [h4.at.1]
        exact (begB_ne hd).2
    have := facts_rd (s := s) (f := s.size) (q := s.size) (Nat.le_refl _) (by rw [hz]; decide) (by rw [hz]; decide) (by rw [hz]; decide) l [] (s.size + 2 - 0) 0 (fun a hm => ⟨ha a hm, fun p hp hx hy => rd a.sz a (Nat.le_refl _) (ha a hm) s.size p hx (by omega) hy⟩) (by rwa [List.nil_append]) h2 (by omega) (by omega)
    rw [termP_succ, skip_id (by omega) hsk, this, List.nil_append]
  obtain ⟨hw, ha⟩ := ok_parts ho
  by_cases h3 : t.op = 3
  · rw [fmt_3f h3] at ht hs
    have hl : t.n = 0 ∧ 2 ≤ t.args.length := by rcases wf_cases hw with ⟨h, -, -⟩ | ⟨h, -, -⟩ | ⟨h, hn, hl⟩ | ⟨h, -⟩ <;> first | exact ⟨hn, hl⟩ | omega
    rw [key t.args ha (by intro e; rw [e] at hl; simp at hl) ht hs, if_neg (by omega)]
    obtain ⟨o, n, l⟩ := t
    have h3 : o = 3 := h3
    have hn : n = 0 := hl.1
    subst h3 hn
    rfl
  · have e : t.fmt false = fmtL [t] := by
      show t.fmt false = t.fmt true ++ []
      rw [List.append_nil]
      rcases wf_cases hw with ⟨h, -, -⟩ | ⟨h, -, -⟩ | ⟨h, hn, hl⟩ | ⟨h, -, -, a, e⟩
      · rw [fmt_1 h, fmt_1 h]
      · rw [fmt_2 h, fmt_2 h]
      · exact absurd h h3
      · rw [fmt_4 h e, fmt_4 h e]
    rw [e] at ht hs
    exact key [t] (by simpa using ho) (by simp) ht hs
theorem byte_rng (s : ByteArray) (i : Nat) : 0 ≤ byteAt s i ∧ byteAt s i < 256 := by
  unfold byteAt
  cases s[i]? with
  | none => exact ⟨by decide, by decide⟩
  | some b =>
    have := b.toNat_lt
    simp only [Option.map_some, Option.getD_some]
    omega
mutual
theorem fmt_rng : ∀ (t : Tm) (inner : Bool), t.ok = true → ∀ c ∈ t.fmt inner, 0 ≤ c ∧ c < 256
  | .mk o n l, inner, ho, c, hc => by
    obtain ⟨hw, ha⟩ := ok_parts ho
    have hL := fmtL_rng l ha
    rw [Tm.fmt] at hc
    split at hc
    · simp at hc; omega
    · split at hc
      · simp only [List.mem_singleton] at hc
        subst hc
        exact byte_rng _ _
      · split at hc
        · rcases List.mem_append.1 hc with hc | hc
          · exact hL c hc
          · rcases wf_cases hw with ⟨h, -, -⟩ | ⟨h, -, -⟩ | ⟨h, hn, hl⟩ | ⟨h, hn, hn9, -⟩
            · exact absurd (show o = 1 from h) (by assumption)
            · exact absurd (show o = 2 from h) (by assumption)
            · have h : o = 3 := h; omega
            · have hn : -1 ≤ n := hn
              have hn9 : n ≤ 9 := hn9
              unfold expB at hc
              split at hc
              · simp at hc; omega
              · split at hc <;> simp at hc <;> omega
        · rcases List.mem_append.1 hc with hc | hc
          · rcases List.mem_append.1 hc with hc | hc
            · cases inner <;> simp at hc; omega
            · exact hL c hc
          · cases inner <;> simp at hc; omega
theorem fmtL_rng : ∀ (l : List Tm), (∀ a ∈ l, a.ok = true) → ∀ c ∈ fmtL l, 0 ≤ c ∧ c < 256
  | [], _, c, hc => by simp [fmtL] at hc
  | a :: r, h, c, hc => by
    rw [fmtL] at hc
    rcases List.mem_append.1 hc with hc | hc
    · exact fmt_rng a true (h a (by simp)) c hc
    · exact fmtL_rng r (fun b hb => h b (by simp [hb])) c hc
end
theorem byteAt_toB {bs : List Int} (hr : ∀ c ∈ bs, 0 ≤ c ∧ c < 256) {i : Nat} (hi : i < bs.length) : byteAt (toB bs) i = bs[i] := by
  have := hr bs[i] (by simp)
  rw [toB_eq]
  have e : (⟨(bs.map fun c => UInt8.ofNat c.toNat).toArray⟩ : ByteArray)[i]? = some (UInt8.ofNat bs[i].toNat) := by
    rw [getElem?_pos _ _ (by show i < (bs.map _).toArray.size; simpa using hi)]
    congr 1
    show (bs.map fun c => UInt8.ofNat c.toNat).toArray[i]'(by simpa using hi) = _
    simp
  unfold byteAt
  rw [e]
  simp only [Option.map_some, Option.getD_some, UInt8.toNat_ofNat']
  omega
theorem txt_toB {bs : List Int} (hr : ∀ c ∈ bs, 0 ≤ c ∧ c < 256) : Txt (toB bs) 0 bs := ⟨by rw [toB_size]; omega, fun i hi => by rw [Nat.zero_add]; exact byteAt_toB hr hi⟩
theorem par_fmt {t : Tm} (h : t.val = true) : parP (fmtS t) = (t, -1, 0) := by
  obtain ⟨ho, hz⟩ := val_ok h
  have hl := fmtS_len t
  have e : fmtS t = toB (t.fmt false) := by unfold fmtS; rw [if_pos h]
  have hr := fmt_rng t false ho
  have := term_rd (s := fmtS t) ho (by rw [e, toB_size]) (by rw [e]; exact txt_toB hr)
  unfold parP
  rw [if_neg (by omega), this]
  simp only [Bool.true_eq_false, false_or, Nat.lt_irrefl, if_false]
  rw [if_pos h]
end Go.Proofs.Ytghnmmfkckneaaa.M
