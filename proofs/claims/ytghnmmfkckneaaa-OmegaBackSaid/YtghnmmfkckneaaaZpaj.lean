/-
  Walks in my logic: the small functions of the parser of layer 28.
  Walk in my logic: the exponents of the parser of layer 28.
  The parser of layer 28 in plain Lean.
  Walk in my logic: the parser of layer 28, atom.
  Walk in my logic: the parser of layer 28, factor.
  The parser of layer 28 in plain Lean: terms, places and fuel.
  Walk in my logic: the parser of layer 28, term.
  Walks in my logic: Parse and ParseIdentity of layer 28.
  Walks in my logic: the reader of the reference of layer 28: peek, variable, begins, expect, exponent.
  Walk in my logic: the reader of the reference of layer 28: exponent.
  Walk in my logic: the reader of the reference of layer 28: factor.
  Walk in my logic: the reader of the reference of layer 28: term.
  Walks in my logic: Parse, ParseIdentity and Same of the reference of layer 28.
-/
import Derived.Test.YtghnmmfkckneaaaZpag
import Derived.Test.YtghnmmfkckneaaaZpai
namespace Go.Proofs.Ytghnmmfkckneaaa.M
open Go.RowKit
set_option linter.unusedVariables false
set_option linter.unusedSimpArgs false

theorem idxRun (s : ByteArray) (c : Int) (w : World) : (callFunc 138 #[.string s, .int .u8 c]).run Try.prog w = .ok (.value (.int .i64 (firstIdx s c.toNat.toUInt8))) w := by
  rw [run_callFunc_extern (fn := Try.f138) (e := Extern.BytealgIndexByte.indexByte) Try.func138 (by kernel_rfl) (by kernel_rfl) (by kernel_rfl) (by rfl)]
  rw [run_indexByte_string]
  rfl
set_option maxRecDepth 100000 in
set_option maxHeartbeats 4000000 in
theorem liteIndex_fn (s : ByteArray) (c : Int) : FnA Try.prog 128 [.t 0 (.str s), .t 2 (.int .u8 c)] (.t 2 (.int .i64 (firstIdx s c.toNat.toUInt8))) := by
  refine fn_intro Try.func128 rfl (by simp [Try.f128]) ?_
  rw [show Try.f128.ntmps = 8 from rfl, show Try.f128.results = #[.tmp 4] from rfl]
  refine awp_seqR (fun K hK => ?_)
  simp (maxSteps := 2000000) (disch := omega) [ints, rows, scal, wr64, wr8]
  (repeat' first | refine hK _ ?_ | apply And.intro) <;> clear hK K <;> try first | (show chkD _ _ = true; kernel_rfl) | omega | rfl | (simp; done) | (simp; omega)
  refine awp_seqR (fun K hK => ?_)
  simp (maxSteps := 2000000) (disch := omega) [ints, rows, scal, wr64, wr8]
  refine call_ext s c 0 2 rfl rfl rfl rfl (by simp) (by simp) (idxRun s c) ?_
  simp (maxSteps := 2000000) (disch := omega) [ints, rows, scal, wr64, wr8]
  (repeat' first | refine hK _ ?_ | apply And.intro) <;> clear hK K <;> try first | (show chkD _ _ = true; kernel_rfl) | omega | rfl | (simp; done) | (simp; omega)
  refine awp_ret ?_
  refine ⟨⟨.inr rfl, _, [], rfl, trivial, trivial, by simp, ?_⟩, by simp⟩
  simp
set_option maxRecDepth 100000 in
set_option maxHeartbeats 4000000 in
theorem strIndex_fn (s : ByteArray) (c : Int) : FnA Try.prog 108 [.t 0 (.str s), .t 2 (.int .u8 c)] (.t 2 (.int .i64 (firstIdx s c.toNat.toUInt8))) := by
  have h := liteIndex_fn s c
  refine fn_intro Try.func108 rfl (by simp [Try.f108]) ?_
  rw [show Try.f108.ntmps = 8 from rfl, show Try.f108.results = #[.tmp 4] from rfl]
  refine awp_seqR (fun K hK => ?_)
  simp (maxSteps := 2000000) (disch := omega) [ints, rows, scal, wr64, wr8]
  (repeat' first | refine hK _ ?_ | apply And.intro) <;> clear hK K <;> try first | (show chkD _ _ = true; kernel_rfl) | omega | rfl | (simp; done) | (simp; omega)
  refine awp_seqR (fun K hK => ?_)
  simp (maxSteps := 2000000) (disch := omega) [ints, rows, scal, wr64, wr8]
  (repeat' apply And.intro)
  all_goals (try omega)
  refine call_rule (caps := []) (h) [] [] 2 rfl rfl rfl rfl (by kernel_rfl) (by simp) ?_ trivial trivial rfl trivial trivial (by simp) ?_
  · simp [scal, rows, ints]
  simp (maxSteps := 2000000) (disch := omega) [ints, rows, scal, wr64, wr8]
  (repeat' first | refine hK _ ?_ | apply And.intro) <;> clear hK K <;> try first | (show chkD _ _ = true; kernel_rfl) | omega | rfl | (simp; done) | (simp; omega)
  refine awp_ret ?_
  refine ⟨⟨.inr rfl, _, [], rfl, trivial, trivial, by simp, ?_⟩, by simp⟩
  simp
/-- The number of a variable, -1 for another byte. -/
def varI (c : Int) : Int := if c = 120 then 0 else if c = 121 then 1 else if c = 122 then 2 else if c = 117 then 3 else if c = 118 then 4 else if c = 116 then 5 else -1
def namesB : ByteArray := ⟨#[120, 121, 122, 117, 118, 116]⟩
theorem varI_idx' : ∀ c : Fin 256, firstIdx namesB c.val.toUInt8 = varI (c.val : Int) := by decide +kernel
theorem varI_idx {c : Int} (h0 : 0 ≤ c) (h1 : c < 256) : firstIdx namesB c.toNat.toUInt8 = varI c := by
  have := varI_idx' ⟨c.toNat, by omega⟩
  simp only at this
  rw [this]
  congr 1
  omega
def begB (c : Int) : Bool := decide (c = 49) || decide (c = 40) || (decide (c ≠ 0) && decide (0 ≤ varI c))
set_option maxRecDepth 100000 in
set_option maxHeartbeats 4000000 in
theorem begins_fn {c : Int} (h0 : 0 ≤ c) (h1 : c < 256) : FnA Try.prog 75 [.t 2 (.int .u8 c)] (.t 2 (.bool (begB c))) := by
  have h := strIndex_fn namesB c
  rw [varI_idx h0 h1] at h
  unfold namesB at h
  refine fn_intro Try.func75 rfl (by simp [Try.f75]) ?_
  rw [show Try.f75.ntmps = 18 from rfl, show Try.f75.results = #[.tmp 2] from rfl]
  refine awp_seqR (fun K hK => ?_)
  simp (maxSteps := 2000000) (disch := omega) [ints, rows, scal, wr64, wr8]
  (repeat' first | refine hK _ ?_ | apply And.intro) <;> clear hK K <;> try first | (show chkD _ _ = true; kernel_rfl) | omega | rfl | (simp; done) | (simp; omega)
  by_cases e1 : c = 49
  · subst e1
    refine awp_seqR (fun K hK => ?_)
    simp (maxSteps := 2000000) (disch := omega) [ints, rows, scal, wr64, wr8]
    (repeat' first | refine hK _ ?_ | apply And.intro) <;> clear hK K <;> try first | (show chkD _ _ = true; kernel_rfl) | omega | rfl | (simp; done) | (simp; omega)
    all_goals (refine awp_ret ?_; refine ⟨⟨.inr rfl, _, [], rfl, trivial, trivial, by simp [begB], ?_⟩, by simp [begB]⟩; simp [begB])
  by_cases e2 : c = 40
  · subst e2
    refine awp_seqR (fun K hK => ?_)
    simp (maxSteps := 2000000) (disch := omega) [ints, rows, scal, wr64, wr8]
    (repeat' first | refine hK _ ?_ | apply And.intro) <;> clear hK K <;> try first | (show chkD _ _ = true; kernel_rfl) | omega | rfl | (simp; done) | (simp; omega)
    all_goals (refine awp_ret ?_; refine ⟨⟨.inr rfl, _, [], rfl, trivial, trivial, by simp [begB], ?_⟩, by simp [begB]⟩; simp [begB])
  have b1 : (c == 49) = false := by simpa using e1
  have b2 : (c == 40) = false := by simpa using e2
  by_cases e3 : c = 0
  · subst e3
    refine awp_seqR (fun K hK => ?_)
    simp (maxSteps := 2000000) (disch := omega) [ints, rows, scal, wr64, wr8]
    (repeat' first | refine hK _ ?_ | apply And.intro) <;> clear hK K <;> try first | (show chkD _ _ = true; kernel_rfl) | omega | rfl | (simp; done) | (simp; omega)
    all_goals (refine awp_ret ?_; refine ⟨⟨.inr rfl, _, [], rfl, trivial, trivial, by simp [begB], ?_⟩, by simp [begB]⟩; simp [begB])
  · have b3 : (c == 0) = false := by simpa using e3
    have b4 : (c != 0) = true := by simpa using e3
    refine awp_seqR (fun K hK => ?_)
    simp (maxSteps := 2000000) (disch := omega) [ints, rows, scal, wr64, wr8, b1, b2, b3, b4, e3]
    (repeat' apply And.intro)
    all_goals (try omega)
    refine call_rule (caps := []) (h) [] [] 2 (by simp [scal, rows, ints, b1, b2, b3, b4, e3]) rfl rfl rfl (by kernel_rfl) (by simp) ?_ trivial trivial rfl trivial trivial (by simp) ?_
    · simp [scal, rows, ints, b1, b2, b3, b4, e3]
    simp (maxSteps := 2000000) (disch := omega) [ints, rows, scal, wr64, wr8, b1, b2, b3, b4, e3]
    (repeat' first | refine hK _ ?_ | apply And.intro) <;> clear hK K <;> try first | (show chkD _ _ = true; kernel_rfl) | omega | rfl | (simp; done) | (simp; omega)
    all_goals (refine awp_ret ?_; refine ⟨⟨.inr rfl, _, [], rfl, trivial, trivial, by simp [begB, e1, e2, e3], ?_⟩, by simp [begB, e1, e2, e3]⟩; simp [begB, e1, e2, e3])
/-- The state of the parser. -/
def prO (s : ByteArray) (pos : Nat) : AObj := .box 69 [.t 1 (.str s), .t 2 (.int .i64 (pos : Int))]
def pkB (s : ByteArray) (pos : Nat) : Int := if pos = s.size then 0 else byteAt s pos
set_option maxRecDepth 100000 in
set_option maxHeartbeats 4000000 in
theorem peek_fn (s : ByteArray) (pos : Nat) (hp : pos ≤ s.size) (hs : s.size ≤ 1000000) : FnS Try.prog 76 [.ptr 0 0 2] [prO s pos] (.t 2 (.int .u8 (pkB s pos))) [prO s pos] := by
  refine fn_intro Try.func76 rfl (by simp [Try.f76]) ?_
  rw [show Try.f76.ntmps = 22 from rfl, show Try.f76.results = #[.tmp 2] from rfl]
  refine awp_seqR (fun K hK => ?_)
  simp (maxSteps := 2000000) (disch := omega) [ints, rows, scal, wr64, wr8]
  (repeat' first | refine hK _ ?_ | apply And.intro) <;> clear hK K <;> try first | (show chkD _ _ = true; kernel_rfl) | omega | rfl | (simp; done) | (simp; omega)
  refine awp_seq ?_
  refine awp_seqD (by kernel_rfl) (fun K hK => ?_)
  simp (maxSteps := 2000000) (disch := omega) [ints, rows, scal, wr64, wr8, prO]
  (repeat' first | refine hK _ ?_ | apply And.intro) <;> clear hK K <;> try first | (show chkD _ _ = true; kernel_rfl) | omega | rfl | (simp; done) | (simp; omega)
  by_cases he : pos = s.size
  · subst he
    refine awp_cond (b := true) (p := 2) (by simp [scal] <;> omega) ?_
    refine awp_seqR (fun K hK => ?_)
    simp (maxSteps := 2000000) (disch := omega) [ints, rows, scal, wr64, wr8]
    (repeat' first | refine hK _ ?_ | apply And.intro) <;> clear hK K <;> try first | (show chkD _ _ = true; kernel_rfl) | omega | rfl | (simp; done) | (simp; omega)
    refine awp_ret ?_
    have hpk : pkB s s.size = 0 := by unfold pkB; rw [if_pos rfl]
    refine ⟨⟨.inr rfl, _, [(0, some 0)], (by first | rfl | (simp [ints, rows, scal, prO, hpk]; rfl)), ?_, ?_, ?_, ?_⟩, ?_⟩
    all_goals try simp [ints, rows, scal, prO, hpk]
  · refine awp_cond (b := false) (p := 2) (by simp [scal, he] <;> omega) ?_
    refine awp_skip ?_
    show awp _ _ _ _
    refine awp_seqD (by kernel_rfl) (fun K hK => ?_)
    simp (maxSteps := 2000000) (disch := omega) [ints, rows, scal, wr64, wr8, prO]
    (repeat' first | refine hK _ ?_ | apply And.intro) <;> clear hK K <;> try first | (show chkD _ _ = true; kernel_rfl) | omega | rfl | (simp; done) | (simp; omega)
    refine awp_ret ?_
    have hpk : pkB s pos = byteAt s pos := by unfold pkB; rw [if_neg he]
    refine ⟨⟨.inr rfl, _, [(0, some 0)], (by first | rfl | (simp [ints, rows, scal, prO, hpk]; rfl)), ?_, ?_, ?_, ?_⟩, ?_⟩
    all_goals try simp [ints, rows, scal, prO, hpk]
theorem pkB_lt {s : ByteArray} {pos : Nat} {b : Int} (hp : pos ≤ s.size) (hb : b ≠ 0) (h : pkB s pos = b) : pos < s.size := by
  unfold pkB at h
  split at h
  · omega
  · omega
set_option maxRecDepth 100000 in
set_option maxHeartbeats 4000000 in
theorem accept_fn (s : ByteArray) (pos : Nat) (b : Int) (hp : pos ≤ s.size) (hs : s.size ≤ 1000000) (hb : b ≠ 0) : FnS Try.prog 42 [.ptr 0 0 2, .t 2 (.int .u8 b)] [prO s pos] (.t 2 (.bool (decide (pkB s pos = b)))) [prO s (if pkB s pos = b then pos + 1 else pos)] := by
  have hpk := peek_fn s pos hp hs
  refine fn_intro Try.func42 rfl (by simp [Try.f42]) ?_
  rw [show Try.f42.ntmps = 16 from rfl, show Try.f42.results = #[.tmp 4] from rfl]
  refine awp_seqR (fun K hK => ?_)
  simp (maxSteps := 2000000) (disch := omega) [ints, rows, scal, wr64, wr8]
  (repeat' first | refine hK _ ?_ | apply And.intro) <;> clear hK K <;> try first | (show chkD _ _ = true; kernel_rfl) | omega | rfl | (simp; done) | (simp; omega)
  refine awp_seq ?_
  refine awp_seqR (fun K hK => ?_)
  simp (maxSteps := 2000000) (disch := omega) [ints, rows, scal, wr64, wr8]
  (repeat' apply And.intro)
  all_goals (try omega)
  refine call_rule (caps := []) (hpk) [0] [0] 1 rfl rfl rfl rfl (by kernel_rfl) (by simp) ?_ ?_ (by simp) rfl (by simp) ⟨.inr ⟨rfl, 0, _, _, _, _, _, rfl, rfl, (by first | rfl | simp [prO]), rfl, (by first | rfl | simp [prO])⟩, trivial⟩ (by simp [prO]) ?_
  · simp [scal, rows, ints, prO]
  · simp [scal, rows, ints, prO]
  simp (maxSteps := 2000000) (disch := omega) [ints, rows, scal, wr64, wr8, prO]
  (repeat' first | refine hK _ ?_ | apply And.intro) <;> clear hK K <;> try first | (show chkD _ _ = true; kernel_rfl) | omega | rfl | (simp; done) | (simp; omega)
  by_cases he : pkB s pos = b
  · have hlt := pkB_lt hp hb he
    refine awp_cond (b := false) (p := 2) (by simp [scal, he] <;> omega) ?_
    refine awp_skip ?_
    show awp _ _ _ _
    refine awp_seqR (fun K hK => ?_)
    simp (maxSteps := 2000000) (disch := omega) [ints, rows, scal, wr64, wr8, prO]
    (repeat' first | refine hK _ ?_ | apply And.intro) <;> clear hK K <;> try first | (show chkD _ _ = true; kernel_rfl) | omega | rfl | (simp; done) | (simp; omega)
    refine awp_seqR (fun K hK => ?_)
    simp (maxSteps := 2000000) (disch := omega) [ints, rows, scal, wr64, wr8]
    (repeat' first | refine hK _ ?_ | apply And.intro) <;> clear hK K <;> try first | (show chkD _ _ = true; kernel_rfl) | omega | rfl | (simp; done) | (simp; omega)
    refine awp_ret ?_
    refine ⟨⟨.inr rfl, _, [(0, some 0)], (by first | rfl | (simp [ints, rows, scal, prO, he]; rfl)), ?_, ?_, ?_, ?_⟩, ?_⟩
    all_goals try simp [ints, rows, scal, prO, he]
  · refine awp_cond (b := true) (p := 2) (by simp [scal, he] <;> omega) ?_
    refine awp_seqR (fun K hK => ?_)
    simp (maxSteps := 2000000) (disch := omega) [ints, rows, scal, wr64, wr8]
    (repeat' first | refine hK _ ?_ | apply And.intro) <;> clear hK K <;> try first | (show chkD _ _ = true; kernel_rfl) | omega | rfl | (simp; done) | (simp; omega)
    refine awp_ret ?_
    refine ⟨⟨.inr rfl, _, [(0, some 0)], (by first | rfl | (simp [ints, rows, scal, prO, he]; rfl)), ?_, ?_, ?_, ?_⟩, ?_⟩
    all_goals try simp [ints, rows, scal, prO, he]
/-- Behind the spaces. -/
def skF (s : ByteArray) : Nat → Nat → Nat
  | 0, pos => pos
  | f + 1, pos => if pkB s pos = 32 then skF s f (pos + 1) else pos
def skipS (s : ByteArray) (pos : Nat) : Nat := skF s (s.size - pos) pos
theorem skipS_eq {s : ByteArray} {pos : Nat} (hp : pos ≤ s.size) : skipS s pos = if pkB s pos = 32 then skipS s (pos + 1) else pos := by
  unfold skipS
  by_cases h : pkB s pos = 32
  · have hlt := pkB_lt hp (by omega) h
    rw [if_pos h, show s.size - pos = (s.size - (pos + 1)) + 1 by omega]
    show (if pkB s pos = 32 then _ else _) = _
    rw [if_pos h]
  · rw [if_neg h]
    cases hf : s.size - pos with
    | zero => rfl
    | succ f =>
      show (if pkB s pos = 32 then _ else _) = _
      rw [if_neg h]
theorem skF_le {s : ByteArray} : ∀ f pos, pos + f ≤ s.size → skF s f pos ≤ s.size ∧ pos ≤ skF s f pos
  | 0, pos, h => ⟨by simpa [skF] using h, Nat.le_refl _⟩
  | f + 1, pos, h => by
    unfold skF
    split
    · have := skF_le (s := s) f (pos + 1) (by omega)
      exact ⟨this.1, by omega⟩
    · exact ⟨by omega, Nat.le_refl _⟩
theorem skipS_le {s : ByteArray} {pos : Nat} (hp : pos ≤ s.size) : skipS s pos ≤ s.size ∧ pos ≤ skipS s pos := skF_le _ _ (by omega)
set_option maxRecDepth 100000 in
set_option maxHeartbeats 4000000 in
theorem spaces_fn (s : ByteArray) (pos : Nat) (hp : pos ≤ s.size) (hs : s.size ≤ 1000000) : FnS Try.prog 74 [.ptr 0 0 2] [prO s pos] (.tup []) [prO s (skipS s pos)] := by
  refine fn_intro Try.func74 rfl (by simp [Try.f74]) ?_
  rw [show Try.f74.ntmps = 4 from rfl, show Try.f74.results = #[] from rfl]
  refine awp_block ?_
  refine awp_loop (fun q : Nat => mkS [(0, .ptr 0 0 2)] [(0, prO s q)] 1 4 [.ptr 0 0 2]) (fun q => q ≤ s.size ∧ skipS s q = skipS s pos) (fun q => s.size - q) ?_ ?_
  · refine ⟨pos, ⟨hp, rfl⟩, ?_⟩
    refine wk_list [(0, some 0)] rfl ?_ ?_ ?_ ?_
    all_goals try simp [ints, prO]
  rintro q ⟨hq, hsk⟩
  have hac := accept_fn s q 32 hq hs (by omega)
  refine awp_seq ?_
  refine awp_seqR (fun K hK => ?_)
  simp (maxSteps := 2000000) (disch := omega) [ints, rows, scal, wr64, wr8]
  (repeat' apply And.intro)
  all_goals (try omega)
  refine call_rule (caps := []) (hac) [0] [0] 1 rfl rfl rfl rfl (by kernel_rfl) (by simp) ?_ ?_ (by simp) rfl (by simp) ⟨.inr ⟨rfl, 0, _, _, _, _, _, rfl, rfl, (by first | rfl | simp [prO]), rfl, (by first | rfl | simp [prO])⟩, trivial⟩ (by simp [prO]) ?_
  · simp [scal, rows, ints, prO]
  · simp [scal, rows, ints, prO]
  simp (maxSteps := 2000000) (disch := omega) [ints, rows, scal, wr64, wr8, prO]
  (repeat' first | refine hK _ ?_ | apply And.intro) <;> clear hK K <;> try first | (show chkD _ _ = true; kernel_rfl) | omega | rfl | (simp; done) | (simp; omega)
  by_cases he : pkB s q = 32
  · have hlt := pkB_lt hq (by omega) he
    refine awp_cond (b := true) (p := 2) (by simp [scal, he] <;> omega) ?_
    refine awp_skip ?_
    show awp _ _ _ _
    refine awp_block ?_
    refine awp_skip ?_
    rw [skipS_eq hq, if_pos he] at hsk
    refine ⟨q + 1, ⟨by omega, hsk⟩, by omega, ?_⟩
    refine wk_list [(0, some 0)] rfl ?_ ?_ ?_ ?_
    all_goals try simp [ints, prO, he]
  · rw [skipS_eq hq, if_neg he] at hsk
    refine awp_cond (b := false) (p := 2) (by simp [scal, he] <;> omega) ?_
    refine awp_exit ?_
    have hq2 : (if pkB s q = 32 then q + 1 else q) = skipS s pos := by rw [if_neg he]; exact hsk
    refine ⟨⟨.inl rfl, _, [(0, some 0)], rfl, ?_, ?_, ?_, ?_⟩, ?_⟩
    all_goals simp [prO, hq2]
end Go.Proofs.Ytghnmmfkckneaaa.M

namespace Go.Proofs.Ytghnmmfkckneaaa.M
open Go.RowKit
set_option linter.unusedVariables false
set_option linter.unusedSimpArgs false

/-- The exponent behind '^': number, success, position behind it or of the first wrong byte. -/
def expS (s : ByteArray) (pos : Nat) : Int × Bool × Nat :=
  if pkB s pos = 119 then (0, true, pos + 1)
  else if pkB s pos ≠ 40 then (0, false, pos)
  else if pkB s (pos + 1) ≠ 119 then (0, false, pos + 1)
  else if pkB s (pos + 1 + 1) = 45 then
    (if pkB s (pos + 1 + 1 + 1) ≠ 49 then (-1, false, pos + 1 + 1 + 1) else if pkB s (pos + 1 + 1 + 1 + 1) ≠ 41 then (-1, false, pos + 1 + 1 + 1 + 1) else (-1, true, pos + 1 + 1 + 1 + 1 + 1))
  else if pkB s (pos + 1 + 1) ≠ 43 then (0, false, pos + 1 + 1)
  else if pkB s (pos + 1 + 1 + 1) < 49 ∨ 57 < pkB s (pos + 1 + 1 + 1) then (0, false, pos + 1 + 1 + 1)
  else if pkB s (pos + 1 + 1 + 1 + 1) ≠ 41 then (pkB s (pos + 1 + 1 + 1) - 48, false, pos + 1 + 1 + 1 + 1) else (pkB s (pos + 1 + 1 + 1) - 48, true, pos + 1 + 1 + 1 + 1 + 1)
theorem accept_yes {s : ByteArray} {pos : Nat} {b : Int} (hp : pos ≤ s.size) (hs : s.size ≤ 1000000) (hb : b ≠ 0) (h : pkB s pos = b) : pos + 1 ≤ s.size ∧ FnS Try.prog 42 [.ptr 0 0 2, .t 2 (.int .u8 b)] [prO s pos] (.t 2 (.bool true)) [prO s (pos + 1)] := by
  have := accept_fn s pos b hp hs hb
  rw [if_pos h, decide_eq_true h] at this
  exact ⟨pkB_lt hp hb h, this⟩
theorem accept_no {s : ByteArray} {pos : Nat} {b : Int} (hp : pos ≤ s.size) (hs : s.size ≤ 1000000) (hb : b ≠ 0) (h : pkB s pos ≠ b) : FnS Try.prog 42 [.ptr 0 0 2, .t 2 (.int .u8 b)] [prO s pos] (.t 2 (.bool false)) [prO s pos] := by
  have := accept_fn s pos b hp hs hb
  rw [if_neg h, decide_eq_false h] at this
  exact this
set_option maxRecDepth 100000 in
set_option maxHeartbeats 8000000 in
theorem exponent_fn (s : ByteArray) (pos : Nat) (hp : pos ≤ s.size) (hs : s.size ≤ 1000000) : FnS Try.prog 110 [.ptr 0 0 2] [prO s pos] (.tup [.t 2 (.int .i64 (expS s pos).1), .t 2 (.bool (expS s pos).2.1)]) [prO s (expS s pos).2.2] := by
  refine fn_intro Try.func110 rfl (by simp [Try.f110]) ?_
  rw [show Try.f110.ntmps = 50 from rfl, show Try.f110.results = #[.tmp 2, .tmp 3] from rfl]
  refine awp_seqR (fun K hK => ?_)
  simp (maxSteps := 2000000) (disch := omega) [ints, rows, scal, wr64, wr8]
  (repeat' first | refine hK _ ?_ | apply And.intro) <;> clear hK K <;> try first | (show chkD _ _ = true; kernel_rfl) | omega | rfl | (simp; done) | (simp; omega)
  refine awp_seq ?_
  by_cases e1 : pkB s pos = 119
  · obtain ⟨-, h1⟩ := accept_yes hp hs (by omega) e1
    have hres : expS s pos = (0, true, pos + 1) := by unfold expS; rw [if_pos e1]
    refine awp_seqR (fun K hK => ?_)
    simp (maxSteps := 2000000) (disch := omega) [ints, rows, scal, wr64, wr8]
    (repeat' apply And.intro)
    all_goals (try omega)
    refine call_rule (caps := []) (h1) [0] [0] 1 rfl rfl rfl rfl (by kernel_rfl) (by simp) ?_ ?_ (by simp) rfl (by simp) ⟨.inr ⟨rfl, 0, _, _, _, _, _, rfl, rfl, (by first | rfl | simp [prO]), rfl, (by first | rfl | simp [prO])⟩, trivial⟩ (by simp [prO]) ?_
    · simp [scal, rows, ints, prO]
    · simp [scal, rows, ints, prO]
    simp (maxSteps := 2000000) (disch := omega) [ints, rows, scal, wr64, wr8, prO]
    (repeat' first | refine hK _ ?_ | apply And.intro) <;> clear hK K <;> try first | (show chkD _ _ = true; kernel_rfl) | omega | rfl | (simp; done) | (simp; omega)
    refine awp_cond (b := true) (p := 2) (by simp [scal] <;> omega) ?_
    refine awp_seqR (fun K hK => ?_)
    simp (maxSteps := 2000000) (disch := omega) [ints, rows, scal, wr64, wr8]
    (repeat' first | refine hK _ ?_ | apply And.intro) <;> clear hK K <;> try first | (show chkD _ _ = true; kernel_rfl) | omega | rfl | (simp; done) | (simp; omega)
    refine awp_ret ?_
    refine ⟨⟨.inr rfl, _, [(0, some 0)], (by first | rfl | (simp [ints, rows, scal, prO, hres]; rfl)), ?_, ?_, ?_, ?_⟩, ?_⟩
    all_goals try simp [ints, rows, scal, prO, hres]
  have h1 := accept_no hp hs (by omega) e1
  refine awp_seqR (fun K hK => ?_)
  simp (maxSteps := 2000000) (disch := omega) [ints, rows, scal, wr64, wr8]
  (repeat' apply And.intro)
  all_goals (try omega)
  refine call_rule (caps := []) (h1) [0] [0] 1 rfl rfl rfl rfl (by kernel_rfl) (by simp) ?_ ?_ (by simp) rfl (by simp) ⟨.inr ⟨rfl, 0, _, _, _, _, _, rfl, rfl, (by first | rfl | simp [prO]), rfl, (by first | rfl | simp [prO])⟩, trivial⟩ (by simp [prO]) ?_
  · simp [scal, rows, ints, prO]
  · simp [scal, rows, ints, prO]
  simp (maxSteps := 2000000) (disch := omega) [ints, rows, scal, wr64, wr8, prO]
  (repeat' first | refine hK _ ?_ | apply And.intro) <;> clear hK K <;> try first | (show chkD _ _ = true; kernel_rfl) | omega | rfl | (simp; done) | (simp; omega)
  refine awp_cond (b := false) (p := 2) (by simp [scal] <;> omega) ?_
  refine awp_skip ?_
  show awp _ _ _ _
  refine awp_seq ?_
  by_cases e2 : pkB s pos = 40
  case neg =>
    have h2 := accept_no hp hs (by omega) e2
    have hres : expS s pos = (0, false, pos) := by unfold expS; rw [if_neg e1, if_pos e2]
    refine awp_seqR (fun K hK => ?_)
    simp (maxSteps := 2000000) (disch := omega) [ints, rows, scal, wr64, wr8]
    (repeat' apply And.intro)
    all_goals (try omega)
    refine call_rule (caps := []) (h2) [0] [0] 1 rfl rfl rfl rfl (by kernel_rfl) (by simp) ?_ ?_ (by simp) rfl (by simp) ⟨.inr ⟨rfl, 0, _, _, _, _, _, rfl, rfl, (by first | rfl | simp [prO]), rfl, (by first | rfl | simp [prO])⟩, trivial⟩ (by simp [prO]) ?_
    · simp [scal, rows, ints, prO]
    · simp [scal, rows, ints, prO]
    simp (maxSteps := 2000000) (disch := omega) [ints, rows, scal, wr64, wr8, prO]
    (repeat' first | refine hK _ ?_ | apply And.intro) <;> clear hK K <;> try first | (show chkD _ _ = true; kernel_rfl) | omega | rfl | (simp; done) | (simp; omega)
    refine awp_cond (b := true) (p := 2) (by simp [scal] <;> omega) ?_
    refine awp_seqR (fun K hK => ?_)
    simp (maxSteps := 2000000) (disch := omega) [ints, rows, scal, wr64, wr8]
    (repeat' first | refine hK _ ?_ | apply And.intro) <;> clear hK K <;> try first | (show chkD _ _ = true; kernel_rfl) | omega | rfl | (simp; done) | (simp; omega)
    refine awp_ret ?_
    refine ⟨⟨.inr rfl, _, [(0, some 0)], (by first | rfl | (simp [ints, rows, scal, prO, hres]; rfl)), ?_, ?_, ?_, ?_⟩, ?_⟩
    all_goals try simp [ints, rows, scal, prO, hres]
  obtain ⟨hp1, h2⟩ := accept_yes hp hs (by omega) e2
  by_cases e3 : pkB s (pos + 1) = 119
  case neg =>
    have h3 := accept_no hp1 hs (by omega) e3
    have hres : expS s pos = (0, false, pos + 1) := by unfold expS; rw [if_neg e1, if_neg (by simpa using e2), if_pos e3]
    refine awp_seqR (fun K hK => ?_)
    simp (maxSteps := 2000000) (disch := omega) [ints, rows, scal, wr64, wr8]
    (repeat' apply And.intro)
    all_goals (try omega)
    refine call_rule (caps := []) (h2) [0] [0] 1 rfl rfl rfl rfl (by kernel_rfl) (by simp) ?_ ?_ (by simp) rfl (by simp) ⟨.inr ⟨rfl, 0, _, _, _, _, _, rfl, rfl, (by first | rfl | simp [prO]), rfl, (by first | rfl | simp [prO])⟩, trivial⟩ (by simp [prO]) ?_
    · simp [scal, rows, ints, prO]
    · simp [scal, rows, ints, prO]
    simp (maxSteps := 2000000) (disch := omega) [ints, rows, scal, wr64, wr8, prO]
    (repeat' apply And.intro)
    all_goals (try omega)
    refine call_rule (caps := []) (h3) [0] [0] 1 (by simp [prO]) rfl rfl rfl (by kernel_rfl) (by simp) ?_ ?_ (by simp) rfl (by simp) ⟨.inr ⟨rfl, 0, _, _, _, _, _, rfl, rfl, (by first | rfl | simp [prO]), rfl, (by first | rfl | simp [prO])⟩, trivial⟩ (by simp [prO]) ?_
    · simp [scal, rows, ints, prO]
    · simp [scal, rows, ints, prO]
    simp (maxSteps := 2000000) (disch := omega) [ints, rows, scal, wr64, wr8, prO]
    (repeat' first | refine hK _ ?_ | apply And.intro) <;> clear hK K <;> try first | (show chkD _ _ = true; kernel_rfl) | omega | rfl | (simp; done) | (simp; omega)
    refine awp_cond (b := true) (p := 2) (by simp [scal] <;> omega) ?_
    refine awp_seqR (fun K hK => ?_)
    simp (maxSteps := 2000000) (disch := omega) [ints, rows, scal, wr64, wr8]
    (repeat' first | refine hK _ ?_ | apply And.intro) <;> clear hK K <;> try first | (show chkD _ _ = true; kernel_rfl) | omega | rfl | (simp; done) | (simp; omega)
    refine awp_ret ?_
    refine ⟨⟨.inr rfl, _, [(0, some 0)], (by first | rfl | (simp [ints, rows, scal, prO, hres]; rfl)), ?_, ?_, ?_, ?_⟩, ?_⟩
    all_goals try simp [ints, rows, scal, prO, hres]
  obtain ⟨hp2, h3⟩ := accept_yes hp1 hs (by omega) e3
  refine awp_seqR (fun K hK => ?_)
  simp (maxSteps := 2000000) (disch := omega) [ints, rows, scal, wr64, wr8]
  (repeat' apply And.intro)
  all_goals (try omega)
  refine call_rule (caps := []) (h2) [0] [0] 1 rfl rfl rfl rfl (by kernel_rfl) (by simp) ?_ ?_ (by simp) rfl (by simp) ⟨.inr ⟨rfl, 0, _, _, _, _, _, rfl, rfl, (by first | rfl | simp [prO]), rfl, (by first | rfl | simp [prO])⟩, trivial⟩ (by simp [prO]) ?_
  · simp [scal, rows, ints, prO]
  · simp [scal, rows, ints, prO]
  simp (maxSteps := 2000000) (disch := omega) [ints, rows, scal, wr64, wr8, prO]
  (repeat' apply And.intro)
  all_goals (try omega)
  refine call_rule (caps := []) (h3) [0] [0] 1 (by simp [prO]) rfl rfl rfl (by kernel_rfl) (by simp) ?_ ?_ (by simp) rfl (by simp) ⟨.inr ⟨rfl, 0, _, _, _, _, _, rfl, rfl, (by first | rfl | simp [prO]), rfl, (by first | rfl | simp [prO])⟩, trivial⟩ (by simp [prO]) ?_
  · simp [scal, rows, ints, prO]
  · simp [scal, rows, ints, prO]
  simp (maxSteps := 2000000) (disch := omega) [ints, rows, scal, wr64, wr8, prO]
  (repeat' first | refine hK _ ?_ | apply And.intro) <;> clear hK K <;> try first | (show chkD _ _ = true; kernel_rfl) | omega | rfl | (simp; done) | (simp; omega)
  refine awp_cond (b := false) (p := 2) (by simp [scal] <;> omega) ?_
  refine awp_skip ?_
  show awp _ _ _ _
  refine awp_seq ?_
  have hne2 : ¬ pkB s pos ≠ 40 := by simpa using e2
  have hne3 : ¬ pkB s (pos + 1) ≠ 119 := by simpa using e3
  by_cases e4 : pkB s (pos + 1 + 1) = 45
  · obtain ⟨hp3, h4⟩ := accept_yes hp2 hs (by omega) e4
    refine awp_seqR (fun K hK => ?_)
    simp (maxSteps := 2000000) (disch := omega) [ints, rows, scal, wr64, wr8]
    (repeat' apply And.intro)
    all_goals (try omega)
    refine call_rule (caps := []) (h4) [0] [0] 1 rfl rfl rfl rfl (by kernel_rfl) (by simp) ?_ ?_ (by simp) rfl (by simp) ⟨.inr ⟨rfl, 0, _, _, _, _, _, rfl, rfl, (by first | rfl | simp [prO]), rfl, (by first | rfl | simp [prO])⟩, trivial⟩ (by simp [prO]) ?_
    · simp [scal, rows, ints, prO]
    · simp [scal, rows, ints, prO]
    simp (maxSteps := 2000000) (disch := omega) [ints, rows, scal, wr64, wr8, prO]
    (repeat' first | refine hK _ ?_ | apply And.intro) <;> clear hK K <;> try first | (show chkD _ _ = true; kernel_rfl) | omega | rfl | (simp; done) | (simp; omega)
    refine awp_cond (b := true) (p := 2) (by simp [scal] <;> omega) ?_
    by_cases e5 : pkB s (pos + 1 + 1 + 1) = 49
    case neg =>
      have h5 := accept_no hp3 hs (by omega) e5
      have hres : expS s pos = (-1, false, pos + 1 + 1 + 1) := by unfold expS; rw [if_neg e1, if_neg hne2, if_neg hne3, if_pos e4, if_pos e5]
      refine awp_seqR (fun K hK => ?_)
      simp (maxSteps := 2000000) (disch := omega) [ints, rows, scal, wr64, wr8]
      (repeat' apply And.intro)
      all_goals (try omega)
      refine call_rule (caps := []) (h5) [0] [0] 1 rfl rfl rfl rfl (by kernel_rfl) (by simp) ?_ ?_ (by simp) rfl (by simp) ⟨.inr ⟨rfl, 0, _, _, _, _, _, rfl, rfl, (by first | rfl | simp [prO]), rfl, (by first | rfl | simp [prO])⟩, trivial⟩ (by simp [prO]) ?_
      · simp [scal, rows, ints, prO]
      · simp [scal, rows, ints, prO]
      simp (maxSteps := 2000000) (disch := omega) [ints, rows, scal, wr64, wr8, prO]
      (repeat' first | refine hK _ ?_ | apply And.intro) <;> clear hK K <;> try first | (show chkD _ _ = true; kernel_rfl) | omega | rfl | (simp; done) | (simp; omega)
      refine awp_ret ?_
      refine ⟨⟨.inr rfl, _, [(0, some 0)], (by first | rfl | (simp [ints, rows, scal, prO, hres]; rfl)), ?_, ?_, ?_, ?_⟩, ?_⟩
      all_goals try simp [ints, rows, scal, prO, hres]
    obtain ⟨hp4, h5⟩ := accept_yes hp3 hs (by omega) e5
    have hne5 : ¬ pkB s (pos + 1 + 1 + 1) ≠ 49 := by simpa using e5
    by_cases e6 : pkB s (pos + 1 + 1 + 1 + 1) = 41
    case neg =>
      have h6 := accept_no hp4 hs (by omega) e6
      have hres : expS s pos = (-1, false, pos + 1 + 1 + 1 + 1) := by unfold expS; rw [if_neg e1, if_neg hne2, if_neg hne3, if_pos e4, if_neg hne5, if_pos e6]
      refine awp_seqR (fun K hK => ?_)
      simp (maxSteps := 2000000) (disch := omega) [ints, rows, scal, wr64, wr8]
      (repeat' apply And.intro)
      all_goals (try omega)
      refine call_rule (caps := []) (h5) [0] [0] 1 rfl rfl rfl rfl (by kernel_rfl) (by simp) ?_ ?_ (by simp) rfl (by simp) ⟨.inr ⟨rfl, 0, _, _, _, _, _, rfl, rfl, (by first | rfl | simp [prO]), rfl, (by first | rfl | simp [prO])⟩, trivial⟩ (by simp [prO]) ?_
      · simp [scal, rows, ints, prO]
      · simp [scal, rows, ints, prO]
      simp (maxSteps := 2000000) (disch := omega) [ints, rows, scal, wr64, wr8, prO]
      (repeat' apply And.intro)
      all_goals (try omega)
      refine call_rule (caps := []) (h6) [0] [0] 1 (by simp [prO]) rfl rfl rfl (by kernel_rfl) (by simp) ?_ ?_ (by simp) rfl (by simp) ⟨.inr ⟨rfl, 0, _, _, _, _, _, rfl, rfl, (by first | rfl | simp [prO]), rfl, (by first | rfl | simp [prO])⟩, trivial⟩ (by simp [prO]) ?_
      · simp [scal, rows, ints, prO]
      · simp [scal, rows, ints, prO]
      simp (maxSteps := 2000000) (disch := omega) [ints, rows, scal, wr64, wr8, prO]
      (repeat' first | refine hK _ ?_ | apply And.intro) <;> clear hK K <;> try first | (show chkD _ _ = true; kernel_rfl) | omega | rfl | (simp; done) | (simp; omega)
      refine awp_ret ?_
      refine ⟨⟨.inr rfl, _, [(0, some 0)], (by first | rfl | (simp [ints, rows, scal, prO, hres]; rfl)), ?_, ?_, ?_, ?_⟩, ?_⟩
      all_goals try simp [ints, rows, scal, prO, hres]
    obtain ⟨hp5, h6⟩ := accept_yes hp4 hs (by omega) e6
    have hres : expS s pos = (-1, true, pos + 1 + 1 + 1 + 1 + 1) := by unfold expS; rw [if_neg e1, if_neg hne2, if_neg hne3, if_pos e4, if_neg hne5, if_neg (by simpa using e6)]
    refine awp_seqR (fun K hK => ?_)
    simp (maxSteps := 2000000) (disch := omega) [ints, rows, scal, wr64, wr8]
    (repeat' apply And.intro)
    all_goals (try omega)
    refine call_rule (caps := []) (h5) [0] [0] 1 rfl rfl rfl rfl (by kernel_rfl) (by simp) ?_ ?_ (by simp) rfl (by simp) ⟨.inr ⟨rfl, 0, _, _, _, _, _, rfl, rfl, (by first | rfl | simp [prO]), rfl, (by first | rfl | simp [prO])⟩, trivial⟩ (by simp [prO]) ?_
    · simp [scal, rows, ints, prO]
    · simp [scal, rows, ints, prO]
    simp (maxSteps := 2000000) (disch := omega) [ints, rows, scal, wr64, wr8, prO]
    (repeat' apply And.intro)
    all_goals (try omega)
    refine call_rule (caps := []) (h6) [0] [0] 1 (by simp [prO]) rfl rfl rfl (by kernel_rfl) (by simp) ?_ ?_ (by simp) rfl (by simp) ⟨.inr ⟨rfl, 0, _, _, _, _, _, rfl, rfl, (by first | rfl | simp [prO]), rfl, (by first | rfl | simp [prO])⟩, trivial⟩ (by simp [prO]) ?_
    · simp [scal, rows, ints, prO]
    · simp [scal, rows, ints, prO]
    simp (maxSteps := 2000000) (disch := omega) [ints, rows, scal, wr64, wr8, prO]
    (repeat' first | refine hK _ ?_ | apply And.intro) <;> clear hK K <;> try first | (show chkD _ _ = true; kernel_rfl) | omega | rfl | (simp; done) | (simp; omega)
    refine awp_ret ?_
    refine ⟨⟨.inr rfl, _, [(0, some 0)], (by first | rfl | (simp [ints, rows, scal, prO, hres]; rfl)), ?_, ?_, ?_, ?_⟩, ?_⟩
    all_goals try simp [ints, rows, scal, prO, hres]
  have h4 := accept_no hp2 hs (by omega) e4
  refine awp_seqR (fun K hK => ?_)
  simp (maxSteps := 2000000) (disch := omega) [ints, rows, scal, wr64, wr8]
  (repeat' apply And.intro)
  all_goals (try omega)
  refine call_rule (caps := []) (h4) [0] [0] 1 rfl rfl rfl rfl (by kernel_rfl) (by simp) ?_ ?_ (by simp) rfl (by simp) ⟨.inr ⟨rfl, 0, _, _, _, _, _, rfl, rfl, (by first | rfl | simp [prO]), rfl, (by first | rfl | simp [prO])⟩, trivial⟩ (by simp [prO]) ?_
  · simp [scal, rows, ints, prO]
  · simp [scal, rows, ints, prO]
  simp (maxSteps := 2000000) (disch := omega) [ints, rows, scal, wr64, wr8, prO]
  (repeat' first | refine hK _ ?_ | apply And.intro) <;> clear hK K <;> try first | (show chkD _ _ = true; kernel_rfl) | omega | rfl | (simp; done) | (simp; omega)
  refine awp_cond (b := false) (p := 2) (by simp [scal] <;> omega) ?_
  refine awp_skip ?_
  show awp _ _ _ _
  refine awp_seq ?_
  by_cases e5 : pkB s (pos + 1 + 1) = 43
  case neg =>
    have h5 := accept_no hp2 hs (by omega) e5
    have hres : expS s pos = (0, false, pos + 1 + 1) := by unfold expS; rw [if_neg e1, if_neg hne2, if_neg hne3, if_neg e4, if_pos e5]
    refine awp_seqR (fun K hK => ?_)
    simp (maxSteps := 2000000) (disch := omega) [ints, rows, scal, wr64, wr8]
    (repeat' apply And.intro)
    all_goals (try omega)
    refine call_rule (caps := []) (h5) [0] [0] 1 rfl rfl rfl rfl (by kernel_rfl) (by simp) ?_ ?_ (by simp) rfl (by simp) ⟨.inr ⟨rfl, 0, _, _, _, _, _, rfl, rfl, (by first | rfl | simp [prO]), rfl, (by first | rfl | simp [prO])⟩, trivial⟩ (by simp [prO]) ?_
    · simp [scal, rows, ints, prO]
    · simp [scal, rows, ints, prO]
    simp (maxSteps := 2000000) (disch := omega) [ints, rows, scal, wr64, wr8, prO]
    (repeat' first | refine hK _ ?_ | apply And.intro) <;> clear hK K <;> try first | (show chkD _ _ = true; kernel_rfl) | omega | rfl | (simp; done) | (simp; omega)
    refine awp_cond (b := true) (p := 2) (by simp [scal] <;> omega) ?_
    refine awp_seqR (fun K hK => ?_)
    simp (maxSteps := 2000000) (disch := omega) [ints, rows, scal, wr64, wr8]
    (repeat' first | refine hK _ ?_ | apply And.intro) <;> clear hK K <;> try first | (show chkD _ _ = true; kernel_rfl) | omega | rfl | (simp; done) | (simp; omega)
    refine awp_ret ?_
    refine ⟨⟨.inr rfl, _, [(0, some 0)], (by first | rfl | (simp [ints, rows, scal, prO, hres]; rfl)), ?_, ?_, ?_, ?_⟩, ?_⟩
    all_goals try simp [ints, rows, scal, prO, hres]
  obtain ⟨hp3, h5⟩ := accept_yes hp2 hs (by omega) e5
  have hne5 : ¬ pkB s (pos + 1 + 1) ≠ 43 := by simpa using e5
  have hpk := peek_fn s (pos + 1 + 1 + 1) hp3 hs
  by_cases e6 : pkB s (pos + 1 + 1 + 1) < 49
  · have hres : expS s pos = (0, false, pos + 1 + 1 + 1) := by unfold expS; rw [if_neg e1, if_neg hne2, if_neg hne3, if_neg e4, if_neg hne5, if_pos (.inl e6)]
    refine awp_seqR (fun K hK => ?_)
    simp (maxSteps := 2000000) (disch := omega) [ints, rows, scal, wr64, wr8]
    (repeat' apply And.intro)
    all_goals (try omega)
    refine call_rule (caps := []) (h5) [0] [0] 1 rfl rfl rfl rfl (by kernel_rfl) (by simp) ?_ ?_ (by simp) rfl (by simp) ⟨.inr ⟨rfl, 0, _, _, _, _, _, rfl, rfl, (by first | rfl | simp [prO]), rfl, (by first | rfl | simp [prO])⟩, trivial⟩ (by simp [prO]) ?_
    · simp [scal, rows, ints, prO]
    · simp [scal, rows, ints, prO]
    simp (maxSteps := 2000000) (disch := omega) [ints, rows, scal, wr64, wr8, prO]
    (repeat' apply And.intro)
    all_goals (try omega)
    refine call_rule (caps := []) (hpk) [0] [0] 1 (by simp [prO]) rfl rfl rfl (by kernel_rfl) (by simp) ?_ ?_ (by simp) rfl (by simp) ⟨.inr ⟨rfl, 0, _, _, _, _, _, rfl, rfl, (by first | rfl | simp [prO]), rfl, (by first | rfl | simp [prO])⟩, trivial⟩ (by simp [prO]) ?_
    · simp [scal, rows, ints, prO]
    · simp [scal, rows, ints, prO]
    simp (maxSteps := 2000000) (disch := omega) [ints, rows, scal, wr64, wr8, prO, e6]
    (repeat' first | refine hK _ ?_ | apply And.intro) <;> clear hK K <;> try first | (show chkD _ _ = true; kernel_rfl) | omega | rfl | (simp; done) | (simp; omega)
    refine awp_cond (b := true) (p := 2) (by simp [scal, e6] <;> omega) ?_
    refine awp_seqR (fun K hK => ?_)
    simp (maxSteps := 2000000) (disch := omega) [ints, rows, scal, wr64, wr8]
    (repeat' first | refine hK _ ?_ | apply And.intro) <;> clear hK K <;> try first | (show chkD _ _ = true; kernel_rfl) | omega | rfl | (simp; done) | (simp; omega)
    refine awp_ret ?_
    refine ⟨⟨.inr rfl, _, [(0, some 0)], (by first | rfl | (simp [ints, rows, scal, prO, hres]; rfl)), ?_, ?_, ?_, ?_⟩, ?_⟩
    all_goals try simp [ints, rows, scal, prO, hres]
  by_cases e7 : 57 < pkB s (pos + 1 + 1 + 1)
  · have hres : expS s pos = (0, false, pos + 1 + 1 + 1) := by unfold expS; rw [if_neg e1, if_neg hne2, if_neg hne3, if_neg e4, if_neg hne5, if_pos (.inr e7)]
    refine awp_seqR (fun K hK => ?_)
    simp (maxSteps := 2000000) (disch := omega) [ints, rows, scal, wr64, wr8]
    (repeat' apply And.intro)
    all_goals (try omega)
    refine call_rule (caps := []) (h5) [0] [0] 1 rfl rfl rfl rfl (by kernel_rfl) (by simp) ?_ ?_ (by simp) rfl (by simp) ⟨.inr ⟨rfl, 0, _, _, _, _, _, rfl, rfl, (by first | rfl | simp [prO]), rfl, (by first | rfl | simp [prO])⟩, trivial⟩ (by simp [prO]) ?_
    · simp [scal, rows, ints, prO]
    · simp [scal, rows, ints, prO]
    simp (maxSteps := 2000000) (disch := omega) [ints, rows, scal, wr64, wr8, prO]
    (repeat' apply And.intro)
    all_goals (try omega)
    refine call_rule (caps := []) (hpk) [0] [0] 1 (by simp [prO]) rfl rfl rfl (by kernel_rfl) (by simp) ?_ ?_ (by simp) rfl (by simp) ⟨.inr ⟨rfl, 0, _, _, _, _, _, rfl, rfl, (by first | rfl | simp [prO]), rfl, (by first | rfl | simp [prO])⟩, trivial⟩ (by simp [prO]) ?_
    · simp [scal, rows, ints, prO]
    · simp [scal, rows, ints, prO]
    simp (maxSteps := 2000000) (disch := omega) [ints, rows, scal, wr64, wr8, prO, e6]
    (repeat' apply And.intro)
    all_goals (try omega)
    refine call_rule (caps := []) (hpk) [0] [0] 1 (by simp [prO, e6]) rfl rfl rfl (by kernel_rfl) (by simp) ?_ ?_ (by simp) rfl (by simp) ⟨.inr ⟨rfl, 0, _, _, _, _, _, rfl, rfl, (by first | rfl | simp [prO, e6]), rfl, (by first | rfl | simp [prO, e6])⟩, trivial⟩ (by simp [prO, e6]) ?_
    · simp [scal, rows, ints, prO, e6]
    · simp [scal, rows, ints, prO, e6]
    simp (maxSteps := 2000000) (disch := omega) [ints, rows, scal, wr64, wr8, prO, e6, e7]
    (repeat' first | refine hK _ ?_ | apply And.intro) <;> clear hK K <;> try first | (show chkD _ _ = true; kernel_rfl) | omega | rfl | (simp; done) | (simp; omega)
    refine awp_cond (b := true) (p := 2) (by simp [scal, e6, e7] <;> omega) ?_
    refine awp_seqR (fun K hK => ?_)
    simp (maxSteps := 2000000) (disch := omega) [ints, rows, scal, wr64, wr8]
    (repeat' first | refine hK _ ?_ | apply And.intro) <;> clear hK K <;> try first | (show chkD _ _ = true; kernel_rfl) | omega | rfl | (simp; done) | (simp; omega)
    refine awp_ret ?_
    refine ⟨⟨.inr rfl, _, [(0, some 0)], (by first | rfl | (simp [ints, rows, scal, prO, hres]; rfl)), ?_, ?_, ?_, ?_⟩, ?_⟩
    all_goals try simp [ints, rows, scal, prO, hres]
  have hne6 : ¬ (pkB s (pos + 1 + 1 + 1) < 49 ∨ 57 < pkB s (pos + 1 + 1 + 1)) := by omega
  have hlt : pos + 1 + 1 + 1 < s.size := pkB_lt hp3 (b := pkB s (pos + 1 + 1 + 1)) (by omega) rfl
  obtain ⟨dd, hdd⟩ : ∃ dd, dd = pkB s (pos + 1 + 1 + 1) := ⟨_, rfl⟩
  refine awp_seqR (fun K hK => ?_)
  simp (maxSteps := 2000000) (disch := omega) [ints, rows, scal, wr64, wr8]
  (repeat' apply And.intro)
  all_goals (try omega)
  refine call_rule (caps := []) (h5) [0] [0] 1 rfl rfl rfl rfl (by kernel_rfl) (by simp) ?_ ?_ (by simp) rfl (by simp) ⟨.inr ⟨rfl, 0, _, _, _, _, _, rfl, rfl, (by first | rfl | simp [prO]), rfl, (by first | rfl | simp [prO])⟩, trivial⟩ (by simp [prO]) ?_
  · simp [scal, rows, ints, prO]
  · simp [scal, rows, ints, prO]
  simp (maxSteps := 2000000) (disch := omega) [ints, rows, scal, wr64, wr8, prO]
  (repeat' apply And.intro)
  all_goals (try omega)
  refine call_rule (caps := []) (hpk) [0] [0] 1 (by simp [prO]) rfl rfl rfl (by kernel_rfl) (by simp) ?_ ?_ (by simp) rfl (by simp) ⟨.inr ⟨rfl, 0, _, _, _, _, _, rfl, rfl, (by first | rfl | simp [prO]), rfl, (by first | rfl | simp [prO])⟩, trivial⟩ (by simp [prO]) ?_
  · simp [scal, rows, ints, prO]
  · simp [scal, rows, ints, prO]
  simp (maxSteps := 2000000) (disch := omega) [ints, rows, scal, wr64, wr8, prO, e6]
  (repeat' apply And.intro)
  all_goals (try omega)
  refine call_rule (caps := []) (hpk) [0] [0] 1 (by simp [prO, e6]) rfl rfl rfl (by kernel_rfl) (by simp) ?_ ?_ (by simp) rfl (by simp) ⟨.inr ⟨rfl, 0, _, _, _, _, _, rfl, rfl, (by first | rfl | simp [prO, e6]), rfl, (by first | rfl | simp [prO, e6])⟩, trivial⟩ (by simp [prO, e6]) ?_
  · simp [scal, rows, ints, prO, e6]
  · simp [scal, rows, ints, prO, e6]
  simp (maxSteps := 2000000) (disch := omega) [ints, rows, scal, wr64, wr8, prO, e6, e7]
  (repeat' first | refine hK _ ?_ | apply And.intro) <;> clear hK K <;> try first | (show chkD _ _ = true; kernel_rfl) | omega | rfl | (simp; done) | (simp; omega)
  refine awp_cond (b := false) (p := 2) (by simp [scal, e6, e7] <;> omega) ?_
  refine awp_skip ?_
  show awp _ _ _ _
  refine awp_seqR (fun K hK => ?_)
  simp (maxSteps := 2000000) (disch := omega) [ints, rows, scal, wr64, wr8]
  (repeat' apply And.intro)
  all_goals (try omega)
  refine call_rule (caps := []) (hpk) [0] [0] 1 rfl rfl rfl rfl (by kernel_rfl) (by simp) ?_ ?_ (by simp) rfl (by simp) ⟨.inr ⟨rfl, 0, _, _, _, _, _, rfl, rfl, (by first | rfl | simp [prO]), rfl, (by first | rfl | simp [prO])⟩, trivial⟩ (by simp [prO]) ?_
  · simp [scal, rows, ints, prO]
  · simp [scal, rows, ints, prO]
  simp (maxSteps := 2000000) (disch := omega) [ints, rows, scal, wr64, wr8, prO]
  (repeat' first | refine hK _ ?_ | apply And.intro) <;> clear hK K <;> try first | (show chkD _ _ = true; kernel_rfl) | omega | rfl | (simp; done) | (simp; omega)
  refine awp_seqR (fun K hK => ?_)
  simp (maxSteps := 2000000) (disch := omega) [ints, rows, scal, wr64, wr8, prO]
  (repeat' first | refine hK _ ?_ | apply And.intro) <;> clear hK K <;> try first | (show chkD _ _ = true; kernel_rfl) | omega | rfl | (simp; done) | (simp; omega)
  have hp4 : pos + 1 + 1 + 1 + 1 ≤ s.size := hlt
  by_cases e8 : pkB s (pos + 1 + 1 + 1 + 1) = 41
  · obtain ⟨hp5, h8⟩ := accept_yes hp4 hs (by omega) e8
    have hres : expS s pos = (pkB s (pos + 1 + 1 + 1) - 48, true, pos + 1 + 1 + 1 + 1 + 1) := by unfold expS; rw [if_neg e1, if_neg hne2, if_neg hne3, if_neg e4, if_neg hne5, if_neg hne6, if_neg (by simpa using e8)]
    refine awp_seqR (fun K hK => ?_)
    simp (maxSteps := 2000000) (disch := omega) [ints, rows, scal, wr64, wr8]
    (repeat' apply And.intro)
    all_goals (try omega)
    refine call_rule (caps := []) (h8) [0] [0] 1 rfl rfl rfl rfl (by kernel_rfl) (by simp) ?_ ?_ (by simp) rfl (by simp) ⟨.inr ⟨rfl, 0, _, _, _, _, _, rfl, rfl, (by first | rfl | simp [prO]), rfl, (by first | rfl | simp [prO])⟩, trivial⟩ (by simp [prO]) ?_
    · simp [scal, rows, ints, prO]
    · simp [scal, rows, ints, prO]
    simp (maxSteps := 2000000) (disch := omega) [ints, rows, scal, wr64, wr8, prO]
    (repeat' first | refine hK _ ?_ | apply And.intro) <;> clear hK K <;> try first | (show chkD _ _ = true; kernel_rfl) | omega | rfl | (simp; done) | (simp; omega)
    refine awp_ret ?_
    refine ⟨⟨.inr rfl, _, [(0, some 0)], (by first | rfl | (simp [ints, rows, scal, prO, hres]; rfl)), ?_, ?_, ?_, ?_⟩, ?_⟩
    all_goals try simp [ints, rows, scal, prO, hres]
  · have h8 := accept_no hp4 hs (by omega) e8
    have hres : expS s pos = (pkB s (pos + 1 + 1 + 1) - 48, false, pos + 1 + 1 + 1 + 1) := by unfold expS; rw [if_neg e1, if_neg hne2, if_neg hne3, if_neg e4, if_neg hne5, if_neg hne6, if_pos e8]
    refine awp_seqR (fun K hK => ?_)
    simp (maxSteps := 2000000) (disch := omega) [ints, rows, scal, wr64, wr8]
    (repeat' apply And.intro)
    all_goals (try omega)
    refine call_rule (caps := []) (h8) [0] [0] 1 rfl rfl rfl rfl (by kernel_rfl) (by simp) ?_ ?_ (by simp) rfl (by simp) ⟨.inr ⟨rfl, 0, _, _, _, _, _, rfl, rfl, (by first | rfl | simp [prO]), rfl, (by first | rfl | simp [prO])⟩, trivial⟩ (by simp [prO]) ?_
    · simp [scal, rows, ints, prO]
    · simp [scal, rows, ints, prO]
    simp (maxSteps := 2000000) (disch := omega) [ints, rows, scal, wr64, wr8, prO]
    (repeat' first | refine hK _ ?_ | apply And.intro) <;> clear hK K <;> try first | (show chkD _ _ = true; kernel_rfl) | omega | rfl | (simp; done) | (simp; omega)
    refine awp_ret ?_
    refine ⟨⟨.inr rfl, _, [(0, some 0)], (by first | rfl | (simp [ints, rows, scal, prO, hres]; rfl)), ?_, ?_, ?_, ?_⟩, ?_⟩
    all_goals try simp [ints, rows, scal, prO, hres]
end Go.Proofs.Ytghnmmfkckneaaa.M

namespace Go.Proofs.Ytghnmmfkckneaaa.M
open Go.RowKit
set_option linter.unusedVariables false

theorem expS_le {s : ByteArray} {pos : Nat} (hp : pos ≤ s.size) : (expS s pos).2.2 ≤ s.size ∧ pos ≤ (expS s pos).2.2 := by
  unfold expS
  by_cases e1 : pkB s pos = 119
  · have := pkB_lt hp (by omega) e1
    rw [if_pos e1]; exact ⟨by simp only; omega, by simp only; omega⟩
  rw [if_neg e1]
  by_cases e2 : pkB s pos ≠ 40
  · rw [if_pos e2]; exact ⟨hp, Nat.le_refl _⟩
  rw [if_neg e2]
  have h1 := pkB_lt (b := 40) hp (by omega) (by omega)
  by_cases e3 : pkB s (pos + 1) ≠ 119
  · rw [if_pos e3]; exact ⟨by simp only; omega, by simp only; omega⟩
  rw [if_neg e3]
  have h2 := pkB_lt (b := 119) (show pos + 1 ≤ s.size by omega) (by omega) (by omega)
  by_cases e4 : pkB s (pos + 1 + 1) = 45
  · rw [if_pos e4]
    have h3 := pkB_lt (b := 45) (show pos + 1 + 1 ≤ s.size by omega) (by omega) e4
    by_cases e5 : pkB s (pos + 1 + 1 + 1) ≠ 49
    · rw [if_pos e5]; exact ⟨by simp only; omega, by simp only; omega⟩
    rw [if_neg e5]
    have h4 := pkB_lt (b := 49) (show pos + 1 + 1 + 1 ≤ s.size by omega) (by omega) (by omega)
    by_cases e6 : pkB s (pos + 1 + 1 + 1 + 1) ≠ 41
    · rw [if_pos e6]; exact ⟨by simp only; omega, by simp only; omega⟩
    rw [if_neg e6]
    have h5 := pkB_lt (b := 41) (show pos + 1 + 1 + 1 + 1 ≤ s.size by omega) (by omega) (by omega)
    exact ⟨by simp only; omega, by simp only; omega⟩
  rw [if_neg e4]
  by_cases e5 : pkB s (pos + 1 + 1) ≠ 43
  · rw [if_pos e5]; exact ⟨by simp only; omega, by simp only; omega⟩
  rw [if_neg e5]
  have h3 := pkB_lt (b := 43) (show pos + 1 + 1 ≤ s.size by omega) (by omega) (by omega)
  by_cases e6 : pkB s (pos + 1 + 1 + 1) < 49 ∨ 57 < pkB s (pos + 1 + 1 + 1)
  · rw [if_pos e6]; exact ⟨by simp only; omega, by simp only; omega⟩
  rw [if_neg e6]
  have h4 := pkB_lt (b := pkB s (pos + 1 + 1 + 1)) (show pos + 1 + 1 + 1 ≤ s.size by omega) (by omega) rfl
  by_cases e7 : pkB s (pos + 1 + 1 + 1 + 1) ≠ 41
  · rw [if_pos e7]; exact ⟨by simp only; omega, by simp only; omega⟩
  rw [if_neg e7]
  have h5 := pkB_lt (b := 41) (show pos + 1 + 1 + 1 + 1 ≤ s.size by omega) (by omega) (by omega)
  exact ⟨by simp only; omega, by simp only; omega⟩

def Tm.zero : Tm := .mk 0 0 []
/-- A term, success, the position behind it or of the first wrong byte. -/
abbrev PR := Tm × Bool × Nat
/-- An atom; P reads a term. -/
def atomP (P : Nat → PR) (s : ByteArray) (pos : Nat) : PR :=
  if begB (pkB s pos) = false then (.zero, false, pos)
  else if pkB s pos = 49 then (.mk 1 0 [], true, pos + 1)
  else if pkB s pos = 40 then
    (if (P (pos + 1)).2.1 = false then ((P (pos + 1)).1, false, (P (pos + 1)).2.2)
     else if pkB s (P (pos + 1)).2.2 = 41 then ((P (pos + 1)).1, true, (P (pos + 1)).2.2 + 1) else ((P (pos + 1)).1, false, (P (pos + 1)).2.2))
  else (.mk 2 (varI (pkB s pos)) [], true, pos + 1)
/-- Exponents, from a place behind spaces on. -/
def expsP (s : ByteArray) : Nat → Nat → Tm → PR
  | 0, pos, t => (t, true, pos)
  | f + 1, pos, t =>
    if pkB s pos = 94 then
      (if (expS s (pos + 1)).2.1 = false then (.zero, false, (expS s (pos + 1)).2.2)
       else expsP s f (skipS s (expS s (pos + 1)).2.2) (.mk 4 (expS s (pos + 1)).1 [t]))
    else (t, true, pos)
def factorP (P : Nat → PR) (s : ByteArray) (pos : Nat) : PR :=
  if (atomP P s pos).2.1 = false then (.zero, false, (atomP P s pos).2.2)
  else expsP s (s.size + 1 - skipS s (atomP P s pos).2.2) (skipS s (atomP P s pos).2.2) (atomP P s pos).1
/-- Factors, from a place behind spaces on. -/
def factsP (P : Nat → PR) (s : ByteArray) : Nat → Nat → List Tm → PR
  | 0, pos, acc => (.zero, false, pos)
  | f + 1, pos, acc =>
    if acc.length = 0 ∨ begB (pkB s pos) = true then
      (if (factorP P s pos).2.1 = false then (.zero, false, (factorP P s pos).2.2)
       else factsP P s f (skipS s (factorP P s pos).2.2) (acc ++ [(factorP P s pos).1]))
    else (if acc.length = 1 then acc.getD 0 .zero else .mk 3 0 acc, true, pos)
/-- A term; the fuel bounds the depth of parentheses. -/
def termP (s : ByteArray) : Nat → Nat → PR
  | 0, pos => (.zero, false, pos)
  | f + 1, pos => factsP (termP s f) s (s.size + 2 - skipS s pos) (skipS s pos) []
end Go.Proofs.Ytghnmmfkckneaaa.M

namespace Go.Proofs.Ytghnmmfkckneaaa.M
open Go.RowKit
set_option linter.unusedVariables false
set_option linter.unusedSimpArgs false

theorem pkB_rng (s : ByteArray) (pos : Nat) : 0 ≤ pkB s pos ∧ pkB s pos < 256 := by
  unfold pkB
  by_cases h : pos = s.size
  · rw [if_pos h]; omega
  · rw [if_neg h]
    unfold byteAt
    cases s[pos]? with
    | none => simp
    | some b => simp only [Option.map_some, Option.getD_some]; have := b.toNat_lt; omega
/-- A leaf as the code builds it: its list is nil. -/
def tmL (o n : Int) : AV := .agg [.t 2 (.int .i64 o), .t 2 (.int .i64 n), .t 2 (.sl 0 [])]
theorem VR.leaf {E : Ev} {v : Value} {o n : Int} {r : AV} (h : VR E v (.tup [tmL o n, r])) : VR E v (.tup [tmV 2 (.mk o n []), r]) := by
  cases h with
  | tup vs cs hn hr =>
    refine .tup vs _ hn (fun i c hi => ?_)
    match i, hi with
    | 0, hi =>
      injection hi with hi
      subst hi
      have h0 := hr 0 _ rfl
      unfold tmL at h0
      generalize vs.getD 0 undef = u at h0 ⊢
      cases h0 with
      | agg us cs hn' h1 hr' =>
        refine .agg us _ hn' h1 (fun j d hj => ?_)
        match j, hj with
        | 0, hj => exact hr' 0 _ hj
        | 1, hj => exact hr' 1 _ hj
        | 2, hj =>
          injection hj with hj
          subst hj
          rw [nil_val (hr' 2 _ rfl)]
          exact .t _ _ _ (.nil 3)
        | j + 3, hj => simp [Tm.args, Tm.op] at hj
    | i + 1, hi => exact hr (i + 1) c hi
theorem FnS.res' {P : Program} {f : FuncId} {args : List AV} {H H' : List AObj} {r r' : AV} (h : FnS P f args H r H') (hr : ∀ E v, VR E v r → VR E v r') : FnS P f args H r' H' := fun w V ob vs hm hn hv => (h w V ob vs hm hn hv).mono fun e w' ⟨v, ob', h1, h2, h3, h4⟩ => ⟨v, ob', h1, h2, hr _ _ h3, h4⟩
theorem tsTerm (h : 26 < Try.prog.types.size) : (Try.prog.types[26]'h).size = 3 := by rfl
/-- What atom's code gives: a leaf's list is nil. -/
def atomR (P : Nat → PR) (s : ByteArray) (pos : Nat) : AV :=
  if begB (pkB s pos) = false then tmL 0 0
  else if pkB s pos = 49 then tmL 1 0
  else if pkB s pos = 40 then tmV 2 (P (pos + 1)).1
  else tmL 2 (varI (pkB s pos))
set_option maxRecDepth 100000 in
set_option maxHeartbeats 8000000 in
theorem atom_fn' (P : Nat → PR) (s : ByteArray) (pos : Nat) (hp : pos ≤ s.size) (hs : s.size ≤ 1000000)
    (hP : pos + 1 ≤ s.size → (P (pos + 1)).2.2 ≤ s.size ∧ FnS Try.prog 39 [.ptr 0 0 2] [prO s (pos + 1)] (.tup [tmV 2 (P (pos + 1)).1, .t 2 (.bool (P (pos + 1)).2.1)]) [prO s (P (pos + 1)).2.2]) :
    FnS Try.prog 109 [.ptr 0 0 2] [prO s pos] (.tup [atomR P s pos, .t 2 (.bool (atomP P s pos).2.1)]) [prO s (atomP P s pos).2.2] := by
  have h1 := peek_fn s pos hp hs
  have h2 := begins_fn (pkB_rng s pos).1 (pkB_rng s pos).2
  refine fn_intro Try.func109 rfl (by simp [Try.f109]) ?_
  rw [show Try.f109.ntmps = 40 from rfl, show Try.f109.results = #[.cell 2 26, .tmp 3] from rfl]
  refine awp_seqR (fun K hK => ?_)
  simp (maxSteps := 2000000) (disch := omega) [ints, rows, scal, wr64, wr8]
  (repeat' first | refine hK _ ?_ | apply And.intro) <;> clear hK K <;> try first | (show chkD _ _ = true; kernel_rfl) | omega | rfl | (simp; done) | (simp; omega)
  refine awp_seqR (fun K hK => ?_)
  simp (maxSteps := 2000000) (disch := omega) [ints, rows, scal, wr64, wr8]
  (repeat' apply And.intro)
  all_goals (try omega)
  refine call_rule (caps := []) (h1) [0] [0] 1 rfl rfl rfl rfl (by kernel_rfl) (by simp) ?_ ?_ (by simp) rfl (by simp) ⟨.inr ⟨rfl, 0, _, _, _, _, _, rfl, rfl, (by first | rfl | simp [prO]), rfl, (by first | rfl | simp [prO])⟩, trivial⟩ (by simp [prO]) ?_
  · simp [scal, rows, ints, prO]
  · simp [scal, rows, ints, prO]
  simp (maxSteps := 2000000) (disch := omega) [ints, rows, scal, wr64, wr8, prO]
  (repeat' first | refine hK _ ?_ | apply And.intro) <;> clear hK K <;> try first | (show chkD _ _ = true; kernel_rfl) | omega | rfl | (simp; done) | (simp; omega)
  refine awp_seq ?_
  refine awp_seqR (fun K hK => ?_)
  simp (maxSteps := 2000000) (disch := omega) [ints, rows, scal, wr64, wr8]
  (repeat' apply And.intro)
  all_goals (try omega)
  refine call_rule (caps := []) (h2) [] [] 2 rfl rfl rfl rfl (by kernel_rfl) (by simp) ?_ trivial trivial rfl trivial trivial (by simp) ?_
  · simp [scal, rows, ints]
  simp (maxSteps := 2000000) (disch := omega) [ints, rows, scal, wr64, wr8]
  (repeat' first | refine hK _ ?_ | apply And.intro) <;> clear hK K <;> try first | (show chkD _ _ = true; kernel_rfl) | omega | rfl | (simp; done) | (simp; omega)
  by_cases e1 : begB (pkB s pos) = false
  · have hres : atomP P s pos = (.zero, false, pos) := by unfold atomP; rw [if_pos e1]
    refine awp_cond (b := true) (p := 2) (by simp [scal, e1] <;> omega) ?_
    refine awp_seqR (fun K hK => ?_)
    simp (maxSteps := 2000000) (disch := omega) [ints, rows, scal, wr64, wr8]
    (repeat' first | refine hK _ ?_ | apply And.intro) <;> clear hK K <;> try first | (show chkD _ _ = true; kernel_rfl) | omega | rfl | (simp; done) | (simp; omega)
    refine awp_ret ?_
    have hr : atomR P s pos = tmL 0 0 := by unfold atomR; rw [if_pos e1]
    rw [hr, hres]
    unfold tmL
    refine ⟨⟨.inr rfl, _, [(0, some 0)], (by first | rfl | (simp [ints, rows, scal, prO, tsTerm]; rfl)), ?_, ?_, ?_, ?_⟩, ?_⟩
    all_goals try simp [ints, rows, scal, prO, tsTerm]
  have e1' : begB (pkB s pos) = true := by simpa using e1
  have hlt : pos + 1 ≤ s.size := by
    refine pkB_lt (b := pkB s pos) hp (fun h0 => ?_) rfl
    rw [h0] at e1'
    exact absurd e1' (by decide)
  refine awp_cond (b := false) (p := 2) (by simp [scal, e1'] <;> omega) ?_
  refine awp_skip ?_
  show awp _ _ _ _
  refine awp_seqR (fun K hK => ?_)
  simp (maxSteps := 2000000) (disch := omega) [ints, rows, scal, wr64, wr8, prO]
  (repeat' first | refine hK _ ?_ | apply And.intro) <;> clear hK K <;> try first | (show chkD _ _ = true; kernel_rfl) | omega | rfl | (simp; done) | (simp; omega)
  refine awp_seq ?_
  refine awp_seqR (fun K hK => ?_)
  simp (maxSteps := 2000000) (disch := omega) [ints, rows, scal, wr64, wr8]
  (repeat' first | refine hK _ ?_ | apply And.intro) <;> clear hK K <;> try first | (show chkD _ _ = true; kernel_rfl) | omega | rfl | (simp; done) | (simp; omega)
  refine awp_block ?_
  refine awp_seqR (fun K hK => ?_)
  simp (maxSteps := 2000000) (disch := omega) [ints, rows, scal, wr64, wr8]
  (repeat' first | refine hK _ ?_ | apply And.intro) <;> clear hK K <;> try first | (show chkD _ _ = true; kernel_rfl) | omega | rfl | (simp; done) | (simp; omega)
  by_cases e2 : pkB s pos = 49
  · have hres : atomP P s pos = (.mk 1 0 [], true, pos + 1) := by unfold atomP; rw [if_neg e1, if_pos e2]
    have hr : atomR P s pos = tmL 1 0 := by unfold atomR; rw [if_neg e1, if_pos e2]
    refine awp_cond (b := true) (p := 2) (by simp [scal, e2] <;> omega) ?_
    refine awp_seqR (fun K hK => ?_)
    simp (maxSteps := 2000000) (disch := omega) [ints, rows, scal, wr64, wr8]
    (repeat' first | refine hK _ ?_ | apply And.intro) <;> clear hK K <;> try first | (show chkD _ _ = true; kernel_rfl) | omega | rfl | (simp; done) | (simp; omega)
    refine awp_ret ?_
    rw [hr, hres]
    unfold tmL
    refine ⟨⟨.inr rfl, _, [(0, some 0)], (by first | rfl | (simp [ints, rows, scal, prO, tsTerm]; rfl)), ?_, ?_, ?_, ?_⟩, ?_⟩
    all_goals try simp [ints, rows, scal, prO, tsTerm]
  refine awp_cond (b := false) (p := 2) (by simp [scal, e2] <;> omega) ?_
  refine awp_seqR (fun K hK => ?_)
  simp (maxSteps := 2000000) (disch := omega) [ints, rows, scal, wr64, wr8]
  (repeat' first | refine hK _ ?_ | apply And.intro) <;> clear hK K <;> try first | (show chkD _ _ = true; kernel_rfl) | omega | rfl | (simp; done) | (simp; omega)
  by_cases e3 : pkB s pos = 40
  case neg =>
    have h4 := strIndex_fn namesB (pkB s pos)
    rw [varI_idx (pkB_rng s pos).1 (pkB_rng s pos).2] at h4
    unfold namesB at h4
    have hres : atomP P s pos = (.mk 2 (varI (pkB s pos)) [], true, pos + 1) := by unfold atomP; rw [if_neg e1, if_neg e2, if_neg e3]
    have hr : atomR P s pos = tmL 2 (varI (pkB s pos)) := by unfold atomR; rw [if_neg e1, if_neg e2, if_neg e3]
    refine awp_cond (b := false) (p := 2) (by simp [scal, e3] <;> omega) ?_
    refine awp_skip ?_
    show awp _ _ _ _
    refine awp_seqR (fun K hK => ?_)
    simp (maxSteps := 2000000) (disch := omega) [ints, rows, scal, wr64, wr8]
    (repeat' apply And.intro)
    all_goals (try omega)
    refine call_rule (caps := []) (h4) [] [] 2 rfl rfl rfl rfl (by kernel_rfl) (by simp) ?_ trivial trivial rfl trivial trivial (by simp) ?_
    · simp [scal, rows, ints]
    simp (maxSteps := 2000000) (disch := omega) [ints, rows, scal, wr64, wr8]
    (repeat' first | refine hK _ ?_ | apply And.intro) <;> clear hK K <;> try first | (show chkD _ _ = true; kernel_rfl) | omega | rfl | (simp; done) | (simp; omega)
    refine awp_ret ?_
    rw [hr, hres]
    unfold tmL
    refine ⟨⟨.inr rfl, _, [(0, some 0)], (by first | rfl | (simp [ints, rows, scal, prO, tsTerm]; rfl)), ?_, ?_, ?_, ?_⟩, ?_⟩
    all_goals try simp [ints, rows, scal, prO, tsTerm]
  obtain ⟨hle, h5⟩ := hP hlt
  have hr : atomR P s pos = tmV 2 (P (pos + 1)).1 := by unfold atomR; rw [if_neg e1, if_neg e2, if_pos e3]
  have hat : atomP P s pos = (if (P (pos + 1)).2.1 = false then ((P (pos + 1)).1, false, (P (pos + 1)).2.2) else if pkB s (P (pos + 1)).2.2 = 41 then ((P (pos + 1)).1, true, (P (pos + 1)).2.2 + 1) else ((P (pos + 1)).1, false, (P (pos + 1)).2.2)) := by
    unfold atomP; rw [if_neg e1, if_neg e2, if_pos e3]
  rw [hr, hat]
  generalize P (pos + 1) = q at h5 hle ⊢
  obtain ⟨u, b, pe⟩ := q
  simp only at h5 hle ⊢
  refine awp_cond (b := true) (p := 2) (by simp [scal, e3] <;> omega) ?_
  refine awp_seqR (fun K hK => ?_)
  simp (maxSteps := 2000000) (disch := omega) [ints, rows, scal, wr64, wr8]
  (repeat' apply And.intro)
  all_goals (try omega)
  refine call_rule (caps := []) (h5) [0] [0] 1 rfl rfl rfl rfl (by kernel_rfl) (by simp) ?_ ?_ (by simp) rfl (by simp) ⟨.inr ⟨rfl, 0, _, _, _, _, _, rfl, rfl, (by first | rfl | simp [prO]), rfl, (by first | rfl | simp [prO])⟩, trivial⟩ (by simp [prO]) ?_
  · simp [scal, rows, ints, prO]
  · simp [scal, rows, ints, prO]
  simp (maxSteps := 2000000) (disch := omega) [ints, rows, scal, wr64, wr8, prO, tmV, tsTerm]
  (repeat' first | refine hK _ ?_ | apply And.intro) <;> clear hK K <;> try first | (show chkD _ _ = true; kernel_rfl) | omega | rfl | (simp; done) | (simp; omega)
  cases b with
  | false =>
    refine awp_seqD (by kernel_rfl) (fun K hK => ?_)
    simp (maxSteps := 2000000) (disch := omega) [ints, rows, scal, wr64, wr8, prO, tmV, tsTerm]
    (repeat' first | refine hK _ ?_ | apply And.intro) <;> clear hK K <;> try first | (show chkD _ _ = true; kernel_rfl) | omega | rfl | (simp; done) | (simp; omega)
    refine awp_ret ?_
    rw [if_pos rfl]
    refine ⟨⟨.inr rfl, _, [(0, some 0)], (by first | rfl | (simp [ints, rows, scal, prO, tmV, tsTerm]; rfl)), ?_, ?_, ?_, ?_⟩, ?_⟩
    all_goals try simp [ints, rows, scal, prO, tmV, tsTerm]
  | true =>
    by_cases e4 : pkB s pe = 41
    · obtain ⟨-, h6⟩ := accept_yes hle hs (by omega) e4
      refine awp_seqD (by kernel_rfl) (fun K hK => ?_)
      simp (maxSteps := 2000000) (disch := omega) [ints, rows, scal, wr64, wr8, prO, tmV, tsTerm]
      (repeat' apply And.intro)
      all_goals (try omega)
      refine call_ruleD (caps := []) (h6) [0] [0] 1 (by simp [prO]) rfl rfl rfl (by kernel_rfl) (by simp) ?_ ?_ (by simp) rfl (by simp) ⟨.inr ⟨rfl, 0, _, _, _, _, _, rfl, rfl, (by first | rfl | simp [prO]), rfl, (by first | rfl | simp [prO])⟩, trivial⟩ (by simp [prO]) ?_
      · simp [scal, rows, ints, prO]
      · simp [scal, rows, ints, prO]
      simp (maxSteps := 2000000) (disch := omega) [ints, rows, scal, wr64, wr8, prO, tmV, tsTerm]
      (repeat' first | refine hK _ ?_ | apply And.intro) <;> clear hK K <;> try first | (show chkD _ _ = true; kernel_rfl) | omega | rfl | (simp; done) | (simp; omega)
      refine awp_ret ?_
      rw [if_neg (by simp), if_pos e4]
      refine ⟨⟨.inr rfl, _, [(0, some 0)], (by first | rfl | (simp [ints, rows, scal, prO, tmV, tsTerm]; rfl)), ?_, ?_, ?_, ?_⟩, ?_⟩
      all_goals try simp [ints, rows, scal, prO, tmV, tsTerm]
    · have h6 := accept_no hle hs (by omega) e4
      refine awp_seqD (by kernel_rfl) (fun K hK => ?_)
      simp (maxSteps := 2000000) (disch := omega) [ints, rows, scal, wr64, wr8, prO, tmV, tsTerm]
      (repeat' apply And.intro)
      all_goals (try omega)
      refine call_ruleD (caps := []) (h6) [0] [0] 1 (by simp [prO]) rfl rfl rfl (by kernel_rfl) (by simp) ?_ ?_ (by simp) rfl (by simp) ⟨.inr ⟨rfl, 0, _, _, _, _, _, rfl, rfl, (by first | rfl | simp [prO]), rfl, (by first | rfl | simp [prO])⟩, trivial⟩ (by simp [prO]) ?_
      · simp [scal, rows, ints, prO]
      · simp [scal, rows, ints, prO]
      simp (maxSteps := 2000000) (disch := omega) [ints, rows, scal, wr64, wr8, prO, tmV, tsTerm]
      (repeat' first | refine hK _ ?_ | apply And.intro) <;> clear hK K <;> try first | (show chkD _ _ = true; kernel_rfl) | omega | rfl | (simp; done) | (simp; omega)
      refine awp_ret ?_
      rw [if_neg (by simp), if_neg e4]
      refine ⟨⟨.inr rfl, _, [(0, some 0)], (by first | rfl | (simp [ints, rows, scal, prO, tmV, tsTerm]; rfl)), ?_, ?_, ?_, ?_⟩, ?_⟩
      all_goals try simp [ints, rows, scal, prO, tmV, tsTerm]
theorem atom_fn (P : Nat → PR) (s : ByteArray) (pos : Nat) (hp : pos ≤ s.size) (hs : s.size ≤ 1000000)
    (hP : pos + 1 ≤ s.size → (P (pos + 1)).2.2 ≤ s.size ∧ FnS Try.prog 39 [.ptr 0 0 2] [prO s (pos + 1)] (.tup [tmV 2 (P (pos + 1)).1, .t 2 (.bool (P (pos + 1)).2.1)]) [prO s (P (pos + 1)).2.2]) :
    FnS Try.prog 109 [.ptr 0 0 2] [prO s pos] (.tup [tmV 2 (atomP P s pos).1, .t 2 (.bool (atomP P s pos).2.1)]) [prO s (atomP P s pos).2.2] := by
  refine FnS.res' (atom_fn' P s pos hp hs hP) (fun E v h => ?_)
  by_cases e1 : begB (pkB s pos) = false
  · have hres : atomP P s pos = (.zero, false, pos) := by unfold atomP; rw [if_pos e1]
    have hr : atomR P s pos = tmL 0 0 := by unfold atomR; rw [if_pos e1]
    rw [hr, hres] at h
    rw [hres]
    exact h.leaf
  by_cases e2 : pkB s pos = 49
  · have hres : atomP P s pos = (.mk 1 0 [], true, pos + 1) := by unfold atomP; rw [if_neg e1, if_pos e2]
    have hr : atomR P s pos = tmL 1 0 := by unfold atomR; rw [if_neg e1, if_pos e2]
    rw [hr, hres] at h
    rw [hres]
    exact h.leaf
  by_cases e3 : pkB s pos = 40
  · have hr : atomR P s pos = tmV 2 (P (pos + 1)).1 := by unfold atomR; rw [if_neg e1, if_neg e2, if_pos e3]
    have h1 : (atomP P s pos).1 = (P (pos + 1)).1 := by
      unfold atomP
      rw [if_neg e1, if_neg e2, if_pos e3]
      split
      · rfl
      · split <;> rfl
    rw [hr] at h
    rw [h1]
    exact h
  · have hres : atomP P s pos = (.mk 2 (varI (pkB s pos)) [], true, pos + 1) := by unfold atomP; rw [if_neg e1, if_neg e2, if_neg e3]
    have hr : atomR P s pos = tmL 2 (varI (pkB s pos)) := by unfold atomR; rw [if_neg e1, if_neg e2, if_neg e3]
    rw [hr, hres] at h
    rw [hres]
    exact h.leaf
theorem atomP_le {P : Nat → PR} {s : ByteArray} {pos : Nat} (hp : pos ≤ s.size) (hP : pos + 1 ≤ s.size → (P (pos + 1)).2.2 ≤ s.size ∧ pos + 1 ≤ (P (pos + 1)).2.2) : (atomP P s pos).2.2 ≤ s.size ∧ pos ≤ (atomP P s pos).2.2 ∧ ((atomP P s pos).2.1 = true → pos + 1 ≤ (atomP P s pos).2.2) := by
  unfold atomP
  by_cases e1 : begB (pkB s pos) = false
  · rw [if_pos e1]; exact ⟨hp, Nat.le_refl _, fun h => by cases h⟩
  have hlt : pos + 1 ≤ s.size := by
    refine pkB_lt (b := pkB s pos) hp (fun h0 => ?_) rfl
    rw [h0] at e1
    exact e1 (by decide)
  obtain ⟨h1, h2⟩ := hP hlt
  rw [if_neg e1]
  by_cases e2 : pkB s pos = 49
  · rw [if_pos e2]; simp only; omega
  rw [if_neg e2]
  by_cases e3 : pkB s pos = 40
  · rw [if_pos e3]
    by_cases e4 : (P (pos + 1)).2.1 = false
    · rw [if_pos e4]; exact ⟨h1, by simp only; omega, fun h => by cases h⟩
    rw [if_neg e4]
    by_cases e5 : pkB s (P (pos + 1)).2.2 = 41
    · have := pkB_lt h1 (by omega) e5
      rw [if_pos e5]; simp only; omega
    · rw [if_neg e5]; exact ⟨h1, by simp only; omega, fun h => by cases h⟩
  · rw [if_neg e3]; simp only; omega
end Go.Proofs.Ytghnmmfkckneaaa.M

namespace Go.Proofs.Ytghnmmfkckneaaa.M
open Go.RowKit
set_option linter.unusedVariables false
set_option linter.unusedSimpArgs false

def tmO (t : Tm) : AObj := .box 26 [.t 2 (.int .i64 t.op), .t 2 (.int .i64 t.n), .t 2 (.sl 3 (cellsL t.args))]
def zeO : AObj := .box 26 [.t 2 (.int .i64 0), .t 2 (.int .i64 0), .t 2 (.sl 0 [])]
def factorR (P : Nat → PR) (s : ByteArray) (pos : Nat) : AV := if (factorP P s pos).2.1 = false then tmL 0 0 else tmV 2 (factorP P s pos).1
theorem expsP_succ (s : ByteArray) (f pos : Nat) (t : Tm) : expsP s (f + 1) pos t = (if pkB s pos = 94 then
      (if (expS s (pos + 1)).2.1 = false then (.zero, false, (expS s (pos + 1)).2.2)
       else expsP s f (skipS s (expS s (pos + 1)).2.2) (.mk 4 (expS s (pos + 1)).1 [t]))
    else (t, true, pos)) := rfl
theorem expsP_fuel {s : ByteArray} : ∀ f g pos t, pos ≤ s.size → s.size - pos < f → s.size - pos < g → expsP s f pos t = expsP s g pos t
  | 0, g, pos, t, hp, hf, hg => by omega
  | f + 1, 0, pos, t, hp, hf, hg => by omega
  | f + 1, g + 1, pos, t, hp, hf, hg => by
    unfold expsP
    by_cases e1 : pkB s pos = 94
    · have h1 := pkB_lt hp (by omega) e1
      have h2 := expS_le (s := s) (pos := pos + 1) (by omega)
      have h3 := skipS_le h2.1
      rw [if_pos e1, if_pos e1]
      by_cases e2 : (expS s (pos + 1)).2.1 = false
      · rw [if_pos e2, if_pos e2]
      · rw [if_neg e2, if_neg e2]
        exact expsP_fuel f g _ _ h3.1 (by omega) (by omega)
    · rw [if_neg e1, if_neg e1]
set_option maxRecDepth 100000 in
set_option maxHeartbeats 8000000 in
theorem factor_fn' (P : Nat → PR) (s : ByteArray) (pos : Nat) (hp : pos ≤ s.size) (hs : s.size ≤ 1000000) (hle : (atomP P s pos).2.2 ≤ s.size)
    (hA : FnS Try.prog 109 [.ptr 0 0 2] [prO s pos] (.tup [tmV 2 (atomP P s pos).1, .t 2 (.bool (atomP P s pos).2.1)]) [prO s (atomP P s pos).2.2]) :
    FnS Try.prog 77 [.ptr 0 0 2] [prO s pos] (.tup [factorR P s pos, .t 2 (.bool (factorP P s pos).2.1)]) [prO s (factorP P s pos).2.2] := by
  refine fn_intro Try.func77 rfl (by simp [Try.f77]) ?_
  rw [show Try.f77.ntmps = 35 from rfl, show Try.f77.results = #[.cell 2 26, .tmp 3] from rfl]
  have hat : factorP P s pos = (if (atomP P s pos).2.1 = false then (.zero, false, (atomP P s pos).2.2) else expsP s (s.size + 1 - skipS s (atomP P s pos).2.2) (skipS s (atomP P s pos).2.2) (atomP P s pos).1) := rfl
  unfold factorR
  rw [hat]
  generalize atomP P s pos = q at hA hle ⊢
  obtain ⟨u, b, pe⟩ := q
  simp only at hA hle ⊢
  refine awp_seqR (fun K hK => ?_)
  simp (maxSteps := 2000000) (disch := omega) [ints, rows, scal, wr64, wr8]
  (repeat' first | refine hK _ ?_ | apply And.intro) <;> clear hK K <;> try first | (show chkD _ _ = true; kernel_rfl) | omega | rfl | (simp; done) | (simp; omega)
  refine awp_seqR (fun K hK => ?_)
  simp (maxSteps := 2000000) (disch := omega) [ints, rows, scal, wr64, wr8]
  (repeat' apply And.intro)
  all_goals (try omega)
  refine call_rule (caps := []) (hA) [0] [0] 1 rfl rfl rfl rfl (by kernel_rfl) (by simp) ?_ ?_ (by simp) rfl (by simp) ⟨.inr ⟨rfl, 0, _, _, _, _, _, rfl, rfl, (by first | rfl | simp [prO]), rfl, (by first | rfl | simp [prO])⟩, trivial⟩ (by simp [prO]) ?_
  · simp [scal, rows, ints, prO]
  · simp [scal, rows, ints, prO]
  simp (maxSteps := 2000000) (disch := omega) [ints, rows, scal, wr64, wr8, prO, tmV, tsTerm]
  (repeat' first | refine hK _ ?_ | apply And.intro) <;> clear hK K <;> try first | (show chkD _ _ = true; kernel_rfl) | omega | rfl | (simp; done) | (simp; omega)
  refine awp_seq ?_
  refine awp_seqR (fun K hK => ?_)
  simp (maxSteps := 2000000) (disch := omega) [ints, rows, scal, wr64, wr8]
  (repeat' first | refine hK _ ?_ | apply And.intro) <;> clear hK K <;> try first | (show chkD _ _ = true; kernel_rfl) | omega | rfl | (simp; done) | (simp; omega)
  cases b with
  | false =>
    refine awp_cond (b := true) (p := 2) (by simp [scal] <;> omega) ?_
    refine awp_seqR (fun K hK => ?_)
    simp (maxSteps := 2000000) (disch := omega) [ints, rows, scal, wr64, wr8, tsTerm]
    (repeat' first | refine hK _ ?_ | apply And.intro) <;> clear hK K <;> try first | (show chkD _ _ = true; kernel_rfl) | omega | rfl | (simp; done) | (simp; omega)
    refine awp_ret ?_
    rw [if_pos rfl]
    simp only [if_true]
    unfold tmL
    refine ⟨⟨.inr rfl, _, [(0, some 0)], (by first | rfl | (simp [ints, rows, scal, prO, tsTerm]; rfl)), ?_, ?_, ?_, ?_⟩, ?_⟩
    all_goals try simp [ints, rows, scal, prO, tsTerm]
  | true =>
    simp only [Bool.true_eq_false, ↓reduceIte]
    refine awp_cond (b := false) (p := 2) (by simp [scal] <;> omega) ?_
    refine awp_skip ?_
    show awp _ _ _ _
    have h2 := spaces_fn s pe hle hs
    have hsk := (skipS_le hle).1
    generalize skipS s pe = p0 at h2 hsk ⊢
    refine awp_seq ?_
    refine awp_seqR (fun K hK => ?_)
    simp (maxSteps := 2000000) (disch := omega) [ints, rows, scal, wr64, wr8]
    (repeat' apply And.intro)
    all_goals (try omega)
    refine call_rule (caps := []) (h2) [0] [0] 1 rfl rfl rfl rfl (by kernel_rfl) (by simp) ?_ ?_ (by simp) rfl (by simp) ⟨.inr ⟨rfl, 0, _, _, _, _, _, rfl, rfl, (by first | rfl | simp [prO]), rfl, (by first | rfl | simp [prO])⟩, trivial⟩ (by simp [prO]) ?_
    · simp [scal, rows, ints, prO]
    · simp [scal, rows, ints, prO]
    simp (maxSteps := 2000000) (disch := omega) [ints, rows, scal, wr64, wr8, prO, tmV, tsTerm]
    (repeat' first | refine hK _ ?_ | apply And.intro) <;> clear hK K <;> try first | (show chkD _ _ = true; kernel_rfl) | omega | rfl | (simp; done) | (simp; omega)
    refine awp_block ?_
    refine awp_loop (fun q : Nat × Tm => mkS [(0, .ptr 0 0 2), (2, .ptr 1 0 3), (4, .ptr 2 0 3)] [(0, prO s q.1), (1, zeO), (2, tmO q.2)] 3 35 [.ptr 0 0 2]) (fun q => q.1 ≤ s.size ∧ expsP s (s.size + 1 - q.1) q.1 q.2 = expsP s (s.size + 1 - p0) p0 u) (fun q => s.size - q.1) ?_ ?_
    · refine ⟨(p0, u), ⟨hsk, rfl⟩, ?_⟩
      refine wk_list [(0, some 0), (1, some 1), (2, some 7000001)] rfl ?_ ?_ ?_ ?_
      all_goals try simp [ints, prO, zeO, tmO, tsTerm]
    rintro ⟨q, v⟩ ⟨hq, hex⟩
    simp only at hq hex
    rw [← hex]
    rw [show s.size + 1 - q = (s.size - q) + 1 by omega, expsP_succ s (s.size - q) q v]
    refine awp_seq ?_
    by_cases e1 : pkB s q = 94
    case neg =>
      have h3 := accept_no hq hs (by omega) e1
      rw [if_neg e1]
      refine awp_seqR (fun K hK => ?_)
      simp (maxSteps := 2000000) (disch := omega) [ints, rows, scal, wr64, wr8, prO, zeO, tmO]
      (repeat' apply And.intro)
      all_goals (try omega)
      refine call_rule (caps := []) (h3) [0] [0] 1 rfl rfl rfl rfl (by kernel_rfl) (by simp) ?_ ?_ (by simp) rfl (by simp) ⟨.inr ⟨rfl, 0, _, _, _, _, _, rfl, rfl, (by first | rfl | simp [prO]), rfl, (by first | rfl | simp [prO])⟩, trivial⟩ (by simp [prO]) ?_
      · simp [scal, rows, ints, prO]
      · simp [scal, rows, ints, prO]
      simp (maxSteps := 2000000) (disch := omega) [ints, rows, scal, wr64, wr8, prO, zeO, tmO]
      (repeat' first | refine hK _ ?_ | apply And.intro) <;> clear hK K <;> try first | (show chkD _ _ = true; kernel_rfl) | omega | rfl | (simp; done) | (simp; omega)
      refine awp_cond (b := false) (p := 2) (by simp [scal] <;> omega) ?_
      refine awp_exit ?_
      show awp _ _ _ _
      refine awp_seqR (fun K hK => ?_)
      simp (maxSteps := 2000000) (disch := omega) [ints, rows, scal, wr64, wr8, prO, zeO, tmO, tsTerm]
      (repeat' first | refine hK _ ?_ | apply And.intro) <;> clear hK K <;> try first | (show chkD _ _ = true; kernel_rfl) | omega | rfl | (simp; done) | (simp; omega)
      refine awp_ret ?_
      simp only [Bool.true_eq_false, ↓reduceIte]
      refine ⟨⟨.inr rfl, _, [(0, some 0)], (by first | rfl | (simp [ints, rows, scal, prO, zeO, tmO, tsTerm, tmV]; rfl)), ?_, ?_, ?_, ?_⟩, ?_⟩
      all_goals try simp [ints, rows, scal, prO, zeO, tmO, tsTerm, tmV]
    obtain ⟨hp1, h3⟩ := accept_yes hq hs (by omega) e1
    have h4 := exponent_fn s (q + 1) hp1 hs
    have hl4 := expS_le hp1
    rw [if_pos e1]
    generalize expS s (q + 1) = x at h4 hl4 ⊢
    obtain ⟨n, b, pe'⟩ := x
    simp only at h4 hl4 ⊢
    refine awp_seqR (fun K hK => ?_)
    simp (maxSteps := 2000000) (disch := omega) [ints, rows, scal, wr64, wr8, prO, zeO, tmO]
    (repeat' apply And.intro)
    all_goals (try omega)
    refine call_rule (caps := []) (h3) [0] [0] 1 rfl rfl rfl rfl (by kernel_rfl) (by simp) ?_ ?_ (by simp) rfl (by simp) ⟨.inr ⟨rfl, 0, _, _, _, _, _, rfl, rfl, (by first | rfl | simp [prO]), rfl, (by first | rfl | simp [prO])⟩, trivial⟩ (by simp [prO]) ?_
    · simp [scal, rows, ints, prO]
    · simp [scal, rows, ints, prO]
    simp (maxSteps := 2000000) (disch := omega) [ints, rows, scal, wr64, wr8, prO, zeO, tmO]
    (repeat' first | refine hK _ ?_ | apply And.intro) <;> clear hK K <;> try first | (show chkD _ _ = true; kernel_rfl) | omega | rfl | (simp; done) | (simp; omega)
    refine awp_cond (b := true) (p := 2) (by simp [scal] <;> omega) ?_
    refine awp_skip ?_
    show awp _ _ _ _
    refine awp_seq ?_
    refine awp_block ?_
    refine awp_seqR (fun K hK => ?_)
    simp (maxSteps := 2000000) (disch := omega) [ints, rows, scal, wr64, wr8, prO, zeO, tmO]
    (repeat' apply And.intro)
    all_goals (try omega)
    refine call_rule (caps := []) (h4) [0] [0] 1 rfl rfl rfl rfl (by kernel_rfl) (by simp) ?_ ?_ (by simp) rfl (by simp) ⟨.inr ⟨rfl, 0, _, _, _, _, _, rfl, rfl, (by first | rfl | simp [prO]), rfl, (by first | rfl | simp [prO])⟩, trivial⟩ (by simp [prO]) ?_
    · simp [scal, rows, ints, prO]
    · simp [scal, rows, ints, prO]
    simp (maxSteps := 2000000) (disch := omega) [ints, rows, scal, wr64, wr8, prO, zeO, tmO]
    (repeat' first | refine hK _ ?_ | apply And.intro) <;> clear hK K <;> try first | (show chkD _ _ = true; kernel_rfl) | omega | rfl | (simp; done) | (simp; omega)
    refine awp_seq ?_
    refine awp_seqR (fun K hK => ?_)
    simp (maxSteps := 2000000) (disch := omega) [ints, rows, scal, wr64, wr8, prO, zeO, tmO]
    (repeat' first | refine hK _ ?_ | apply And.intro) <;> clear hK K <;> try first | (show chkD _ _ = true; kernel_rfl) | omega | rfl | (simp; done) | (simp; omega)
    cases b with
    | false =>
      refine awp_cond (b := true) (p := 2) (by simp [scal] <;> omega) ?_
      refine awp_seqR (fun K hK => ?_)
      simp (maxSteps := 2000000) (disch := omega) [ints, rows, scal, wr64, wr8, prO, zeO, tmO, tsTerm]
      (repeat' first | refine hK _ ?_ | apply And.intro) <;> clear hK K <;> try first | (show chkD _ _ = true; kernel_rfl) | omega | rfl | (simp; done) | (simp; omega)
      refine awp_ret ?_
      simp only [↓reduceIte]
      unfold tmL
      refine ⟨⟨.inr rfl, _, [(0, some 0)], (by first | rfl | (simp [ints, rows, scal, prO, zeO, tmO, tsTerm, tmV]; rfl)), ?_, ?_, ?_, ?_⟩, ?_⟩
      all_goals try simp [ints, rows, scal, prO, zeO, tmO, tsTerm, tmV]
    | true =>
      have h5 := spaces_fn s pe' hl4.1 hs
      have hs5 := skipS_le hl4.1
      refine awp_cond (b := false) (p := 2) (by simp [scal] <;> omega) ?_
      refine awp_skip ?_
      show awp _ _ _ _
      refine awp_R (fun K hK => ?_)
      simp (maxSteps := 2000000) (disch := omega) [ints, rows, scal, wr64, wr8, prO, zeO, tmO, tsTerm]
      (repeat' first | refine hK _ ?_ | apply And.intro) <;> clear hK K <;> try first | (show chkD _ _ = true; kernel_rfl) | omega | rfl | (simp; done) | (simp; omega)
      show awp _ _ _ _
      refine awp_R (fun K hK => ?_)
      simp (maxSteps := 2000000) (disch := omega) [ints, rows, scal, wr64, wr8, prO, zeO, tmO]
      (repeat' apply And.intro)
      all_goals (try omega)
      refine call_rule (caps := []) (h5) [0] [0] 1 rfl rfl rfl rfl (by kernel_rfl) (by simp) ?_ ?_ (by simp) rfl (by simp) ⟨.inr ⟨rfl, 0, _, _, _, _, _, rfl, rfl, (by first | rfl | simp [prO]), rfl, (by first | rfl | simp [prO])⟩, trivial⟩ (by simp [prO]) ?_
      · simp [scal, rows, ints, prO]
      · simp [scal, rows, ints, prO]
      simp (maxSteps := 2000000) (disch := omega) [ints, rows, scal, wr64, wr8, prO, zeO, tmO]
      (repeat' first | refine hK _ ?_ | apply And.intro) <;> clear hK K <;> try first | (show chkD _ _ = true; kernel_rfl) | omega | rfl | (simp; done) | (simp; omega)
      refine ⟨(skipS s pe', .mk 4 n [v]), ⟨hs5.1, ?_⟩, by simp only; omega, ?_⟩
      · simp only [Bool.true_eq_false, ↓reduceIte]
        exact expsP_fuel (s.size + 1 - skipS s pe') (s.size - q) (skipS s pe') (.mk 4 n [v]) hs5.1 (by omega) (by omega)
      refine wk_list [(0, some 0), (1, some 1), (2, some 2)] rfl ?_ ?_ ?_ ?_
      all_goals try simp [ints, prO, zeO, tmO, tsTerm, Tm.op, Tm.n, Tm.args, cellsL, Tm.cells_eq]
theorem factor_fn (P : Nat → PR) (s : ByteArray) (pos : Nat) (hp : pos ≤ s.size) (hs : s.size ≤ 1000000) (hle : (atomP P s pos).2.2 ≤ s.size)
    (hA : FnS Try.prog 109 [.ptr 0 0 2] [prO s pos] (.tup [tmV 2 (atomP P s pos).1, .t 2 (.bool (atomP P s pos).2.1)]) [prO s (atomP P s pos).2.2])
    (hz : (factorP P s pos).2.1 = false → (factorP P s pos).1 = .zero) :
    FnS Try.prog 77 [.ptr 0 0 2] [prO s pos] (.tup [tmV 2 (factorP P s pos).1, .t 2 (.bool (factorP P s pos).2.1)]) [prO s (factorP P s pos).2.2] := by
  refine FnS.res' (factor_fn' P s pos hp hs hle hA) (fun E v h => ?_)
  unfold factorR at h
  by_cases e : (factorP P s pos).2.1 = false
  · rw [if_pos e] at h
    rw [hz e]
    exact h.leaf
  · rw [if_neg e] at h
    exact h
theorem expsP_zero {s : ByteArray} : ∀ f pos t, (expsP s f pos t).2.1 = false → (expsP s f pos t).1 = .zero
  | 0, pos, t, h => by cases h
  | f + 1, pos, t, h => by
    rw [expsP_succ] at h ⊢
    by_cases e1 : pkB s pos = 94
    · rw [if_pos e1] at h ⊢
      by_cases e2 : (expS s (pos + 1)).2.1 = false
      · rw [if_pos e2]
      · rw [if_neg e2] at h ⊢
        exact expsP_zero f _ _ h
    · rw [if_neg e1] at h
      cases h
theorem expsP_le {s : ByteArray} : ∀ f pos t, pos ≤ s.size → (expsP s f pos t).2.2 ≤ s.size ∧ pos ≤ (expsP s f pos t).2.2
  | 0, pos, t, hp => ⟨hp, Nat.le_refl _⟩
  | f + 1, pos, t, hp => by
    rw [expsP_succ]
    by_cases e1 : pkB s pos = 94
    · have h1 := pkB_lt hp (by omega) e1
      have h2 := expS_le (s := s) (pos := pos + 1) (by omega)
      have h3 := skipS_le h2.1
      rw [if_pos e1]
      by_cases e2 : (expS s (pos + 1)).2.1 = false
      · rw [if_pos e2]; exact ⟨h2.1, by simp only; omega⟩
      · rw [if_neg e2]
        have h4 := expsP_le f (skipS s (expS s (pos + 1)).2.2) (.mk 4 (expS s (pos + 1)).1 [t]) h3.1
        exact ⟨h4.1, by omega⟩
    · rw [if_neg e1]; exact ⟨hp, Nat.le_refl _⟩
theorem factorP_zero {P : Nat → PR} {s : ByteArray} {pos : Nat} (h : (factorP P s pos).2.1 = false) : (factorP P s pos).1 = .zero := by
  unfold factorP at h ⊢
  by_cases e : (atomP P s pos).2.1 = false
  · rw [if_pos e]
  · rw [if_neg e] at h ⊢
    exact expsP_zero _ _ _ h
theorem factorP_le {P : Nat → PR} {s : ByteArray} {pos : Nat} (hp : pos ≤ s.size) (hP : pos + 1 ≤ s.size → (P (pos + 1)).2.2 ≤ s.size ∧ pos + 1 ≤ (P (pos + 1)).2.2) : (factorP P s pos).2.2 ≤ s.size ∧ pos ≤ (factorP P s pos).2.2 ∧ ((factorP P s pos).2.1 = true → pos + 1 ≤ (factorP P s pos).2.2) := by
  obtain ⟨h1, h2, h3⟩ := atomP_le hp hP
  unfold factorP
  by_cases e : (atomP P s pos).2.1 = false
  · rw [if_pos e]; exact ⟨h1, h2, fun h => by cases h⟩
  · rw [if_neg e]
    have h4 := skipS_le h1
    have h5 := expsP_le (s.size + 1 - skipS s (atomP P s pos).2.2) (skipS s (atomP P s pos).2.2) (atomP P s pos).1 h4.1
    have h6 := h3 (by simpa using e)
    exact ⟨h5.1, by omega, fun _ => by omega⟩
end Go.Proofs.Ytghnmmfkckneaaa.M

namespace Go.Proofs.Ytghnmmfkckneaaa.M
open Go.RowKit
set_option linter.unusedVariables false
set_option linter.unusedSimpArgs false

/-- P reads on from every place. -/
def PGood (P : Nat → PR) (s : ByteArray) (lo : Nat) : Prop := ∀ q, lo ≤ q → q ≤ s.size → (P q).2.2 ≤ s.size ∧ q ≤ (P q).2.2
theorem factsP_succ (P : Nat → PR) (s : ByteArray) (f pos : Nat) (acc : List Tm) : factsP P s (f + 1) pos acc = (if acc.length = 0 ∨ begB (pkB s pos) = true then
      (if (factorP P s pos).2.1 = false then (.zero, false, (factorP P s pos).2.2)
       else factsP P s f (skipS s (factorP P s pos).2.2) (acc ++ [(factorP P s pos).1]))
    else (if acc.length = 1 then acc.getD 0 .zero else .mk 3 0 acc, true, pos)) := rfl
theorem factsP_fuel {P : Nat → PR} {s : ByteArray} {lo : Nat} (hP : PGood P s lo) : ∀ f g pos acc, lo ≤ pos + 1 → pos ≤ s.size → s.size - pos < f → s.size - pos < g → factsP P s f pos acc = factsP P s g pos acc
  | 0, g, pos, acc, hl, hp, hf, hg => by omega
  | f + 1, 0, pos, acc, hl, hp, hf, hg => by omega
  | f + 1, g + 1, pos, acc, hl, hp, hf, hg => by
    rw [factsP_succ, factsP_succ]
    by_cases e1 : acc.length = 0 ∨ begB (pkB s pos) = true
    · rw [if_pos e1, if_pos e1]
      obtain ⟨h1, h2, h3⟩ := factorP_le hp (P := P) (fun h => hP (pos + 1) hl h)
      by_cases e2 : (factorP P s pos).2.1 = false
      · rw [if_pos e2, if_pos e2]
      · rw [if_neg e2, if_neg e2]
        have h4 := h3 (by simpa using e2)
        have h5 := skipS_le h1
        exact factsP_fuel hP f g _ _ (by omega) h5.1 (by omega) (by omega)
    · rw [if_neg e1, if_neg e1]
theorem factsP_le {P : Nat → PR} {s : ByteArray} {lo : Nat} (hP : PGood P s lo) : ∀ f pos acc, lo ≤ pos + 1 → pos ≤ s.size → (factsP P s f pos acc).2.2 ≤ s.size ∧ pos ≤ (factsP P s f pos acc).2.2
  | 0, pos, acc, hl, hp => ⟨hp, Nat.le_refl _⟩
  | f + 1, pos, acc, hl, hp => by
    rw [factsP_succ]
    by_cases e1 : acc.length = 0 ∨ begB (pkB s pos) = true
    · rw [if_pos e1]
      obtain ⟨h1, h2, h3⟩ := factorP_le hp (P := P) (fun h => hP (pos + 1) hl h)
      by_cases e2 : (factorP P s pos).2.1 = false
      · rw [if_pos e2]; exact ⟨h1, h2⟩
      · rw [if_neg e2]
        have h5 := skipS_le h1
        have := factsP_le hP f _ (acc ++ [(factorP P s pos).1]) (by omega) h5.1
        exact ⟨this.1, by omega⟩
    · rw [if_neg e1]; exact ⟨hp, Nat.le_refl _⟩
theorem factsP_zero {P : Nat → PR} {s : ByteArray} : ∀ f pos acc, (factsP P s f pos acc).2.1 = false → (factsP P s f pos acc).1 = .zero
  | 0, pos, acc, h => rfl
  | f + 1, pos, acc, h => by
    rw [factsP_succ] at h ⊢
    by_cases e1 : acc.length = 0 ∨ begB (pkB s pos) = true
    · rw [if_pos e1] at h ⊢
      by_cases e2 : (factorP P s pos).2.1 = false
      · rw [if_pos e2]
      · rw [if_neg e2] at h ⊢
        exact factsP_zero f _ _ h
    · rw [if_neg e1] at h; cases h
theorem termP_succ (s : ByteArray) (f pos : Nat) : termP s (f + 1) pos = factsP (termP s f) s (s.size + 2 - skipS s pos) (skipS s pos) [] := rfl
theorem termP_le {s : ByteArray} : ∀ f pos, pos ≤ s.size → (termP s f pos).2.2 ≤ s.size ∧ pos ≤ (termP s f pos).2.2
  | 0, pos, hp => ⟨hp, Nat.le_refl _⟩
  | f + 1, pos, hp => by
    rw [termP_succ]
    have h5 := skipS_le hp
    have := factsP_le (P := termP s f) (s := s) (lo := 0) (fun q _ hq => termP_le f q hq) (s.size + 2 - skipS s pos) (skipS s pos) [] (by omega) h5.1
    exact ⟨this.1, by omega⟩
theorem termP_zero {s : ByteArray} : ∀ f pos, (termP s f pos).2.1 = false → (termP s f pos).1 = .zero
  | 0, pos, h => rfl
  | f + 1, pos, h => by
    rw [termP_succ] at h ⊢
    exact factsP_zero _ _ _ h
theorem skipS_pk {s : ByteArray} {pos : Nat} (hp : pos ≤ s.size) : pkB s (skipS s pos) ≠ 32 := by
  obtain ⟨n, hn⟩ : ∃ n, n = s.size - pos := ⟨_, rfl⟩
  induction n generalizing pos with
  | zero =>
    rw [skipS_eq hp]
    have : pos = s.size := by omega
    unfold pkB
    simp [this]
  | succ n ih =>
    rw [skipS_eq hp]
    by_cases h : pkB s pos = 32
    · have := pkB_lt hp (by omega) h
      rw [if_pos h]
      exact ih (by omega) (by omega)
    · rw [if_neg h]; exact h
theorem skipS_id {s : ByteArray} {pos : Nat} (hp : pos ≤ s.size) (h : pkB s pos ≠ 32) : skipS s pos = pos := by
  rw [skipS_eq hp, if_neg h]
theorem factsP_pk {P : Nat → PR} {s : ByteArray} {lo : Nat} (hP : PGood P s lo) : ∀ f pos acc, lo ≤ pos + 1 → pos ≤ s.size → pkB s pos ≠ 32 → (factsP P s f pos acc).2.1 = true → pkB s (factsP P s f pos acc).2.2 ≠ 32
  | 0, pos, acc, hl, hp, h, ht => h
  | f + 1, pos, acc, hl, hp, h, ht => by
    rw [factsP_succ] at ht ⊢
    by_cases e1 : acc.length = 0 ∨ begB (pkB s pos) = true
    · rw [if_pos e1] at ht ⊢
      obtain ⟨h1, h2, h3⟩ := factorP_le hp (P := P) (fun h => hP (pos + 1) hl h)
      by_cases e2 : (factorP P s pos).2.1 = false
      · rw [if_pos e2] at ht; cases ht
      · rw [if_neg e2] at ht ⊢
        have h5 := skipS_le h1
        exact factsP_pk hP f _ _ (by omega) h5.1 (skipS_pk h1) ht
    · rw [if_neg e1]; exact h
theorem termP_pk {s : ByteArray} {f pos : Nat} (hp : pos ≤ s.size) (h : (termP s f pos).2.1 = true) : pkB s (termP s f pos).2.2 ≠ 32 := by
  cases f with
  | zero => cases h
  | succ f =>
    rw [termP_succ] at h ⊢
    have h5 := skipS_le hp
    exact factsP_pk (P := termP s f) (lo := 0) (fun q _ hq => termP_le f q hq) _ _ _ (by omega) h5.1 (skipS_pk hp) h
end Go.Proofs.Ytghnmmfkckneaaa.M

namespace Go.Proofs.Ytghnmmfkckneaaa.M
open Go.RowKit
set_option linter.unusedVariables false
set_option linter.unusedSimpArgs false

def fsO (acc : List Tm) : AObj := .row 26 3 2 (cellsL acc)
def termR (x : PR) : AV := if x.2.1 = false then tmL 0 0 else tmV 2 x.1
set_option maxRecDepth 100000 in
set_option maxHeartbeats 8000000 in
theorem term_fn' (P : Nat → PR) (s : ByteArray) (pos : Nat) (hp : pos ≤ s.size) (hs : s.size ≤ 100000) (hP : PGood P s (pos + 1))
    (hF : ∀ q, pos ≤ q → q ≤ s.size → FnS Try.prog 77 [.ptr 0 0 2] [prO s q] (.tup [tmV 2 (factorP P s q).1, .t 2 (.bool (factorP P s q).2.1)]) [prO s (factorP P s q).2.2]) :
    FnS Try.prog 39 [.ptr 0 0 2] [prO s pos] (.tup [termR (factsP P s (s.size + 2 - skipS s pos) (skipS s pos) []), .t 2 (.bool (factsP P s (s.size + 2 - skipS s pos) (skipS s pos) []).2.1)]) [prO s (factsP P s (s.size + 2 - skipS s pos) (skipS s pos) []).2.2] := by
  have h1 := spaces_fn s pos hp (by omega)
  have hsk := skipS_le hp
  generalize skipS s pos = p0 at h1 hsk ⊢
  refine fn_intro Try.func39 rfl (by simp [Try.f39]) ?_
  rw [show Try.f39.ntmps = 39 from rfl, show Try.f39.results = #[.cell 2 26, .tmp 3] from rfl]
  refine awp_seqR (fun K hK => ?_)
  simp (maxSteps := 2000000) (disch := omega) [ints, rows, scal, wr64, wr8, prO]
  (repeat' first | refine hK _ ?_ | apply And.intro) <;> clear hK K <;> try first | (show chkD _ _ = true; kernel_rfl) | omega | rfl | (simp; done) | (simp; omega)
  refine awp_seqR (fun K hK => ?_)
  simp (maxSteps := 2000000) (disch := omega) [ints, rows, scal, wr64, wr8, prO]
  (repeat' first | refine hK _ ?_ | apply And.intro) <;> clear hK K <;> try first | (show chkD _ _ = true; kernel_rfl) | omega | rfl | (simp; done) | (simp; omega)
  refine awp_seq ?_
  refine awp_seqR (fun K hK => ?_)
  simp (maxSteps := 2000000) (disch := omega) [ints, rows, scal, wr64, wr8, prO]
  (repeat' apply And.intro)
  all_goals (try omega)
  refine call_rule (caps := []) (h1) [0] [0] 1 rfl rfl rfl rfl (by kernel_rfl) (by simp) ?_ ?_ (by simp) rfl (by simp) ⟨.inr ⟨rfl, 0, _, _, _, _, _, rfl, rfl, (by first | rfl | simp [prO]), rfl, (by first | rfl | simp [prO])⟩, trivial⟩ (by simp [prO]) ?_
  · simp [scal, rows, ints, prO]
  · simp [scal, rows, ints, prO]
  simp (maxSteps := 2000000) (disch := omega) [ints, rows, scal, wr64, wr8, prO]
  (repeat' first | refine hK _ ?_ | apply And.intro) <;> clear hK K <;> try first | (show chkD _ _ = true; kernel_rfl) | omega | rfl | (simp; done) | (simp; omega)
  refine awp_block ?_
  refine awp_loop (fun y : Nat × List Tm => mkS [(0, .ptr 0 0 2), (2, .ptr 1 0 3), (4, .own 2 (y.2.length * 3))] [(0, prO s y.1), (1, zeO), (2, fsO y.2)] 3 39 [.ptr 0 0 2]) (fun y => pos ≤ y.1 ∧ y.1 ≤ s.size ∧ y.2.length ≤ y.1 ∧ factsP P s (s.size + 2 - y.1) y.1 y.2 = factsP P s (s.size + 2 - p0) p0 []) (fun y => s.size - y.1) ?_ ?_
  · refine ⟨(p0, []), ⟨hsk.2, hsk.1, by simp, rfl⟩, ?_⟩
    refine wk_list [(0, some 0), (1, some 1), (2, none)] rfl ?_ ?_ ?_ ?_
    all_goals try simp [ints, prO, zeO, fsO, cellsL, tsTerm]
  rintro ⟨q, acc⟩ ⟨hq0, hq, hacc, hex⟩
  simp only at hq0 hq hacc hex
  rw [← hex]
  rw [show s.size + 2 - q = (s.size - q + 1) + 1 by omega, factsP_succ P s (s.size - q + 1) q acc]
  refine awp_seq ?_
  refine awp_seq (awp_mono (Q := fun e σ => e = Exit.normal ∧ Wk σ (mkS [(0, .ptr 0 0 2), (2, .ptr 1 0 3), (4, .own 2 (acc.length * 3)), (16, .t 2 (.bool (decide (acc.length = 0 ∨ begB (pkB s q) = true))))] [(0, prO s q), (1, zeO), (2, fsO acc)] 3 39 [.ptr 0 0 2])) ?_ ?_)
  · by_cases e0 : acc.length = 0
    · refine awp_R (fun K hK => ?_)
      simp (maxSteps := 2000000) (disch := omega) [ints, rows, scal, wr64, wr8, prO, zeO, fsO, e0]
      (repeat' first | refine hK _ ?_ | apply And.intro) <;> clear hK K <;> try first | (show chkD _ _ = true; kernel_rfl) | omega | rfl | (simp; done) | (simp; omega)
      refine wk_list [(0, some 0), (1, some 1), (2, some 2)] rfl ?_ ?_ ?_ ?_
      all_goals try simp [ints, prO, zeO, fsO, e0]
    · have h2 := peek_fn s q hq (by omega)
      have h3 := begins_fn (pkB_rng s q).1 (pkB_rng s q).2
      have e0' : ((acc.length : Int) == 0) = false := by simpa using e0
      refine awp_R (fun K hK => ?_)
      simp (maxSteps := 2000000) (disch := omega) [ints, rows, scal, wr64, wr8, prO, zeO, fsO, e0, e0']
      (repeat' apply And.intro)
      all_goals (try omega)
      refine call_rule (caps := []) (h2) [0] [0] 1 (by simp [prO, zeO, fsO, e0, e0']) rfl rfl rfl (by kernel_rfl) (by simp) ?_ ?_ (by simp) rfl (by simp) ⟨.inr ⟨rfl, 0, _, _, _, _, _, rfl, rfl, (by first | rfl | simp [prO, zeO, fsO, e0, e0']), rfl, (by first | rfl | simp [prO, zeO, fsO, e0, e0'])⟩, trivial⟩ (by simp [prO, zeO, fsO, e0, e0']) ?_
      · simp [scal, rows, ints, prO, zeO, fsO, e0, e0']
      · simp [scal, rows, ints, prO, zeO, fsO, e0, e0']
      simp (maxSteps := 2000000) (disch := omega) [ints, rows, scal, wr64, wr8, prO, zeO, fsO, e0, e0']
      (repeat' apply And.intro)
      all_goals (try omega)
      refine call_rule (caps := []) (h3) [] [] 2 (by simp [scal, rows, ints, e0, e0']) rfl rfl rfl (by kernel_rfl) (by simp) ?_ trivial trivial rfl trivial trivial (by simp) ?_
      · simp [scal, rows, ints, e0, e0']
      simp (maxSteps := 2000000) (disch := omega) [ints, rows, scal, wr64, wr8, prO, zeO, fsO, e0, e0']
      (repeat' first | refine hK _ ?_ | apply And.intro) <;> clear hK K <;> try first | (show chkD _ _ = true; kernel_rfl) | omega | rfl | (simp; done) | (simp; omega)
      refine wk_list [(0, some 0), (1, some 1), (2, some 2)] rfl ?_ ?_ ?_ ?_
      all_goals try simp [ints, prO, zeO, fsO, e0]
  rintro e σ ⟨rfl, hw⟩
  refine awp_weak hw ?_
  clear hw
  show awp _ _ _ _
  by_cases e1 : acc.length = 0 ∨ begB (pkB s q) = true
  case neg =>
    rw [if_neg e1, decide_eq_false e1]
    refine awp_cond (b := false) (p := 2) (by simp [scal] <;> omega) ?_
    refine awp_exit ?_
    show awp _ _ _ _
    refine awp_seq ?_
    by_cases e2 : acc.length = 1
    · obtain ⟨a, rfl⟩ : ∃ a, acc = [a] := by
        match acc, e2 with
        | [a], _ => exact ⟨a, rfl⟩
      refine awp_seqR (fun K hK => ?_)
      simp (maxSteps := 2000000) (disch := omega) [ints, rows, scal, wr64, wr8, prO, zeO, fsO]
      (repeat' first | refine hK _ ?_ | apply And.intro) <;> clear hK K <;> try first | (show chkD _ _ = true; kernel_rfl) | omega | rfl | (simp; done) | (simp; omega)
      refine awp_cond (b := true) (p := 2) (by simp [scal] <;> omega) ?_
      refine awp_seqR (fun K hK => ?_)
      simp (maxSteps := 2000000) (disch := omega) [ints, rows, scal, wr64, wr8, prO, zeO, fsO, cellsL, Tm.cells_eq, tsTerm]
      (repeat' first | refine hK _ ?_ | apply And.intro) <;> clear hK K <;> try first | (show chkD _ _ = true; kernel_rfl) | omega | rfl | (simp; done) | (simp; omega)
      refine awp_ret ?_
      unfold termR
      refine ⟨⟨.inr rfl, _, [(0, some 0)], (by first | rfl | (simp [ints, rows, scal, prO, zeO, fsO, tsTerm, tmV]; rfl)), ?_, ?_, ?_, ?_⟩, ?_⟩
      all_goals try simp [ints, rows, scal, prO, zeO, fsO, tsTerm, tmV]
    · have e2' : ((acc.length : Int) == 1) = false := by simp; omega
      refine awp_seqR (fun K hK => ?_)
      simp (maxSteps := 2000000) (disch := omega) [ints, rows, scal, wr64, wr8, prO, zeO, fsO, e2, e2']
      (repeat' first | refine hK _ ?_ | apply And.intro) <;> clear hK K <;> try first | (show chkD _ _ = true; kernel_rfl) | omega | rfl | (simp; done) | (simp; omega)
      refine awp_cond (b := false) (p := 2) (by simp [scal] <;> omega) ?_
      refine awp_skip ?_
      show awp _ _ _ _
      refine awp_seqR (fun K hK => ?_)
      simp (maxSteps := 2000000) (disch := omega) [ints, rows, scal, wr64, wr8, prO, zeO, fsO, tsTerm]
      (repeat' first | refine hK _ ?_ | apply And.intro) <;> clear hK K <;> try first | (show chkD _ _ = true; kernel_rfl) | omega | rfl | (simp; done) | (simp; omega)
      refine awp_ret ?_
      unfold termR
      rw [if_neg e2]
      refine ⟨⟨.inr rfl, _, [(0, some 0)], (by first | rfl | (simp [ints, rows, scal, prO, zeO, fsO, tsTerm, tmV, Tm.op, Tm.n, Tm.args]; rfl)), ?_, ?_, ?_, ?_⟩, ?_⟩
      all_goals try simp [ints, rows, scal, prO, zeO, fsO, tsTerm, tmV, Tm.op, Tm.n, Tm.args]
  rw [if_pos e1, decide_eq_true e1]
  have h4 := hF q hq0 hq
  obtain ⟨hl1, hl2, hl3⟩ := factorP_le hq (P := P) (fun h => hP (q + 1) (by omega) h)
  generalize factorP P s q = x at h4 hl1 hl2 hl3 ⊢
  obtain ⟨u, b, pe⟩ := x
  simp only at h4 hl1 hl2 hl3 ⊢
  refine awp_cond (b := true) (p := 2) (by simp [scal] <;> omega) ?_
  refine awp_skip ?_
  show awp _ _ _ _
  refine awp_seq ?_
  refine awp_block ?_
  refine awp_seqR (fun K hK => ?_)
  simp (maxSteps := 2000000) (disch := omega) [ints, rows, scal, wr64, wr8, prO, zeO, fsO]
  (repeat' apply And.intro)
  all_goals (try omega)
  refine call_rule (caps := []) (h4) [0] [0] 1 rfl rfl rfl rfl (by kernel_rfl) (by simp) ?_ ?_ (by simp) rfl (by simp) ⟨.inr ⟨rfl, 0, _, _, _, _, _, rfl, rfl, (by first | rfl | simp [prO]), rfl, (by first | rfl | simp [prO])⟩, trivial⟩ (by simp [prO]) ?_
  · simp [scal, rows, ints, prO]
  · simp [scal, rows, ints, prO]
  simp (maxSteps := 2000000) (disch := omega) [ints, rows, scal, wr64, wr8, prO, zeO, fsO, tmV, tsTerm]
  (repeat' first | refine hK _ ?_ | apply And.intro) <;> clear hK K <;> try first | (show chkD _ _ = true; kernel_rfl) | omega | rfl | (simp; done) | (simp; omega)
  refine awp_seq ?_
  refine awp_seqR (fun K hK => ?_)
  simp (maxSteps := 2000000) (disch := omega) [ints, rows, scal, wr64, wr8, prO, zeO, fsO]
  (repeat' first | refine hK _ ?_ | apply And.intro) <;> clear hK K <;> try first | (show chkD _ _ = true; kernel_rfl) | omega | rfl | (simp; done) | (simp; omega)
  cases b with
  | false =>
    refine awp_cond (b := true) (p := 2) (by simp [scal] <;> omega) ?_
    refine awp_seqR (fun K hK => ?_)
    simp (maxSteps := 2000000) (disch := omega) [ints, rows, scal, wr64, wr8, prO, zeO, fsO, tsTerm]
    (repeat' first | refine hK _ ?_ | apply And.intro) <;> clear hK K <;> try first | (show chkD _ _ = true; kernel_rfl) | omega | rfl | (simp; done) | (simp; omega)
    refine awp_ret ?_
    unfold termR
    simp only [↓reduceIte]
    unfold tmL
    refine ⟨⟨.inr rfl, _, [(0, some 0)], (by first | rfl | (simp [ints, rows, scal, prO, zeO, fsO, tsTerm, tmV]; rfl)), ?_, ?_, ?_, ?_⟩, ?_⟩
    all_goals try simp [ints, rows, scal, prO, zeO, fsO, tsTerm, tmV]
  | true =>
    have hl4 := hl3 rfl
    have h5 := spaces_fn s pe hl1 (by omega)
    have hs5 := skipS_le hl1
    refine awp_cond (b := false) (p := 2) (by simp [scal] <;> omega) ?_
    refine awp_skip ?_
    show awp _ _ _ _
    refine awp_R (fun K hK => ?_)
    simp (maxSteps := 2000000) (disch := omega) [ints, rows, scal, wr64, wr8, prO, zeO, fsO, tsTerm]
    (repeat' first | refine hK _ ?_ | apply And.intro) <;> clear hK K <;> try first | (show chkD _ _ = true; kernel_rfl) | omega | rfl | (simp; done) | (simp; omega)
    show awp _ _ _ _
    refine awp_R (fun K hK => ?_)
    simp (maxSteps := 2000000) (disch := omega) [ints, rows, scal, wr64, wr8, prO, zeO, fsO]
    (repeat' apply And.intro)
    all_goals (try omega)
    refine call_rule (caps := []) (h5) [0] [0] 1 rfl rfl rfl rfl (by kernel_rfl) (by simp) ?_ ?_ (by simp) rfl (by simp) ⟨.inr ⟨rfl, 0, _, _, _, _, _, rfl, rfl, (by first | rfl | simp [prO]), rfl, (by first | rfl | simp [prO])⟩, trivial⟩ (by simp [prO]) ?_
    · simp [scal, rows, ints, prO]
    · simp [scal, rows, ints, prO]
    simp (maxSteps := 2000000) (disch := omega) [ints, rows, scal, wr64, wr8, prO, zeO, fsO]
    (repeat' first | refine hK _ ?_ | apply And.intro) <;> clear hK K <;> try first | (show chkD _ _ = true; kernel_rfl) | omega | rfl | (simp; done) | (simp; omega)
    refine ⟨(skipS s pe, acc ++ [u]), ⟨by simp only; omega, hs5.1, by simp; omega, ?_⟩, by simp only; omega, ?_⟩
    · simp only [Bool.true_eq_false, ↓reduceIte]
      exact factsP_fuel hP _ _ _ _ (by omega) hs5.1 (by omega) (by omega)
    refine wk_list [(0, some 0), (1, some 1), (2, some 2)] rfl ?_ ?_ ?_ ?_
    all_goals try simp [ints, prO, zeO, fsO, cellsL_app, cellsL, Tm.cells_eq]
    omega
theorem term_fn (s : ByteArray) (hs : s.size ≤ 100000) : ∀ f pos, pos ≤ s.size → s.size - pos < f → FnS Try.prog 39 [.ptr 0 0 2] [prO s pos] (.tup [tmV 2 (termP s f pos).1, .t 2 (.bool (termP s f pos).2.1)]) [prO s (termP s f pos).2.2]
  | 0, pos, hp, hf => by omega
  | f + 1, pos, hp, hf => by
    have hP : PGood (termP s f) s (pos + 1) := fun q _ hq => termP_le f q hq
    refine FnS.res' (term_fn' (termP s f) s pos hp hs hP (fun q h1 h2 => ?_)) (fun E v h => ?_)
    · have hA := atom_fn (termP s f) s q h2 (by omega) (fun h3 => ⟨(termP_le f (q + 1) h3).1, term_fn s hs f (q + 1) h3 (by omega)⟩)
      exact factor_fn (termP s f) s q h2 (by omega) (atomP_le h2 (fun h3 => termP_le f (q + 1) h3)).1 hA factorP_zero
    · rw [← termP_succ] at h
      unfold termR at h
      by_cases e : (termP s (f + 1) pos).2.1 = false
      · rw [if_pos e] at h
        rw [termP_zero _ _ e]
        exact h.leaf
      · rw [if_neg e] at h
        exact h
end Go.Proofs.Ytghnmmfkckneaaa.M

namespace Go.Proofs.Ytghnmmfkckneaaa.M
open Go.RowKit
set_option linter.unusedVariables false
set_option linter.unusedSimpArgs false

/-- What reads as the ones reads as the others. -/
def ups : List AV → List AV → Prop
  | [], [] => True
  | a :: as', b :: bs => (∀ E v, VR E v a → VR E v b) ∧ ups as' bs
  | _, _ => False
theorem ups_len : ∀ {l r : List AV}, ups l r → l.length = r.length
  | [], [], _ => rfl
  | a :: l, b :: r, h => by simp [ups_len h.2]
theorem ups_get : ∀ {l r : List AV} (_ : ups l r) (i : Nat) (b : AV), r[i]? = some b → ∃ a, l[i]? = some a ∧ ∀ E v, VR E v a → VR E v b
  | [], [], _, i, b, hi => by simp at hi
  | a :: l, b :: r, h, 0, c, hi => by simp at hi; subst hi; exact ⟨a, rfl, h.1⟩
  | a :: l, b :: r, h, i + 1, c, hi => by simpa using ups_get h.2 i c (by simpa using hi)
theorem VR.upT {E : Ev} {v : Value} {l r : List AV} (h : VR E v (.tup l)) (hu : ups l r) : VR E v (.tup r) := by
  cases h with
  | tup vs cs hn hr =>
    refine .tup vs _ (hn.trans (ups_len hu)) (fun i c hi => ?_)
    obtain ⟨a, ha, hf⟩ := ups_get hu i c hi
    exact hf _ _ (hr i a ha)
theorem VR.upA {E : Ev} {v : Value} {l r : List AV} (h : VR E v (.agg l)) (hu : ups l r) : VR E v (.agg r) := by
  cases h with
  | agg vs cs hn h1 hr =>
    refine .agg vs _ (hn.trans (ups_len hu)) h1 (fun i c hi => ?_)
    obtain ⟨a, ha, hf⟩ := ups_get hu i c hi
    exact hf _ _ (hr i a ha)
theorem VR.nil3 {E : Ev} {v : Value} {p : Nat} (z : Nat) (h : VR E v (.t p (.sl 0 []))) : VR E v (.t p (.sl z [])) := by
  rw [nil_val h]
  exact .t _ _ _ (.nil z)
theorem VR.zeT {E : Ev} {v : Value} {o n : Int} (h : VR E v (tmL o n)) : VR E v (tmV 2 (.mk o n [])) :=
  VR.upA h ⟨fun _ _ h => h, fun _ _ h => h, fun _ _ h => h.nil3 3, trivial⟩
def idL0 : AV := .agg [.t 2 (.int .i64 0), .t 2 (.int .i64 0), .t 2 (.sl 0 []), .t 2 (.int .i64 0), .t 2 (.int .i64 0), .t 2 (.sl 0 [])]
theorem VR.zeI {E : Ev} {v : Value} (h : VR E v idL0) : VR E v (idV 2 .zero .zero) :=
  VR.upA h ⟨fun _ _ h => h, fun _ _ h => h, fun _ _ h => h.nil3 3, fun _ _ h => h, fun _ _ h => h, fun _ _ h => h.nil3 3, trivial⟩
/-- What Parse answers: the term, the position, the error. -/
def parP (s : ByteArray) : Tm × Int × Int :=
  if 1000 < s.size then (.zero, 0, 21)
  else if (termP s (s.size + 1) 0).2.1 = false ∨ (termP s (s.size + 1) 0).2.2 < s.size then (.zero, ((termP s (s.size + 1) 0).2.2 : Int), 2)
  else if (termP s (s.size + 1) 0).1.val = true then ((termP s (s.size + 1) 0).1, -1, 0) else (.zero, 0, 21)
def parV (x : Tm × Int × Int) : AV := .tup [tmV 2 x.1, .t 2 (.int .i64 x.2.1), .t 2 (.int .i64 x.2.2)]
def parR (x : Tm × Int × Int) : AV := .tup [if x.2.2 = 0 then tmV 2 x.1 else tmL 0 0, .t 2 (.int .i64 x.2.1), .t 2 (.int .i64 x.2.2)]
set_option maxRecDepth 100000 in
set_option maxHeartbeats 8000000 in
theorem parse_fn' (s : ByteArray) (hs : s.size ≤ 100000) : FnA Try.prog 9 [.t 2 (.str s)] (parR (parP s)) := by
  have h1 := term_fn s hs (s.size + 1) 0 (by omega) (by omega)
  have hle := (termP_le (s.size + 1) 0 (s := s) (by omega)).1
  unfold parP
  generalize termP s (s.size + 1) 0 = x at h1 hle ⊢
  obtain ⟨t, b, pe⟩ := x
  simp only at h1 hle ⊢
  refine fn_intro Try.func9 rfl (by simp [Try.f9]) ?_
  rw [show Try.f9.ntmps = 38 from rfl, show Try.f9.results = #[.cell 2 26, .tmp 3, .tmp 4] from rfl]
  refine awp_seqR (fun K hK => ?_)
  simp (maxSteps := 2000000) (disch := omega) [ints, rows, scal, wr64, wr8]
  (repeat' first | refine hK _ ?_ | apply And.intro) <;> clear hK K <;> try first | (show chkD _ _ = true; kernel_rfl) | omega | rfl | (simp; done) | (simp; omega)
  refine awp_seq ?_
  refine awp_seqR (fun K hK => ?_)
  simp (maxSteps := 2000000) (disch := omega) [ints, rows, scal, wr64, wr8]
  (repeat' first | refine hK _ ?_ | apply And.intro) <;> clear hK K <;> try first | (show chkD _ _ = true; kernel_rfl) | omega | rfl | (simp; done) | (simp; omega)
  by_cases e0 : 1000 < s.size
  · have e0' : (1000 : Int) < (s.size : Int) := by omega
    refine awp_cond (b := true) (p := 2) (by simp [scal, e0'] <;> omega) ?_
    refine awp_seqR (fun K hK => ?_)
    simp (maxSteps := 2000000) (disch := omega) [ints, rows, scal, wr64, wr8, tsTerm]
    (repeat' first | refine hK _ ?_ | apply And.intro) <;> clear hK K <;> try first | (show chkD _ _ = true; kernel_rfl) | omega | rfl | (simp; done) | (simp; omega)
    refine awp_ret ?_
    rw [if_pos e0]
    unfold parR
    simp only [Int.reduceEq, ↓reduceIte]
    unfold tmL
    refine ⟨⟨.inr rfl, _, [], (by first | rfl | (simp [ints, rows, scal, tsTerm]; rfl)), ?_, ?_, ?_, ?_⟩, ?_⟩
    all_goals try simp [ints, rows, scal, tsTerm]
  have e0' : ¬ (1000 : Int) < (s.size : Int) := by omega
  refine awp_cond (b := false) (p := 2) (by simp [scal, e0'] <;> omega) ?_
  refine awp_skip ?_
  show awp _ _ _ _
  refine awp_seqR (fun K hK => ?_)
  simp (maxSteps := 2000000) (disch := omega) [ints, rows, scal, wr64, wr8]
  (repeat' first | refine hK _ ?_ | apply And.intro) <;> clear hK K <;> try first | (show chkD _ _ = true; kernel_rfl) | omega | rfl | (simp; done) | (simp; omega)
  refine awp_weak (σ' := mkS [(0, .t 2 (.str s)), (2, .ptr 1 0 3), (5, .ptr 0 0 2)] [(0, prO s 0), (1, zeO)] 2 38 [.any]) ?_ ?_
  · refine wk_list [(0, some 8000000), (1, some 0)] rfl ?_ ?_ ?_ ?_
    all_goals try simp [ints, prO, zeO, tsTerm]
  refine awp_seqR (fun K hK => ?_)
  simp (maxSteps := 2000000) (disch := omega) [ints, rows, scal, wr64, wr8]
  (repeat' apply And.intro)
  all_goals (try omega)
  refine call_rule (caps := []) (h1) [0] [0] 1 rfl rfl rfl rfl (by kernel_rfl) (by simp) ?_ ?_ (by simp) rfl (by simp) ⟨.inr ⟨rfl, 0, _, _, _, _, _, rfl, rfl, (by first | rfl | simp [prO]), rfl, (by first | rfl | simp [prO])⟩, trivial⟩ (by simp [prO]) ?_
  · simp [scal, rows, ints, prO]
  · simp [scal, rows, ints, prO]
  simp (maxSteps := 2000000) (disch := omega) [ints, rows, scal, wr64, wr8, prO, zeO, tmV, tsTerm]
  (repeat' first | refine hK _ ?_ | apply And.intro) <;> clear hK K <;> try first | (show chkD _ _ = true; kernel_rfl) | omega | rfl | (simp; done) | (simp; omega)
  refine awp_seq ?_
  by_cases e1 : b = false ∨ pe < s.size
  · refine awp_seq (awp_mono (Q := fun e σ => e = Exit.normal ∧ Wk σ (mkS [(2, .ptr 1 0 3), (5, .ptr 0 0 2), (27, .t 2 (.bool true))] [(0, prO s pe), (1, zeO)] 2 38 [.any])) ?_ ?_)
    · cases b with
      | false =>
        refine awp_R (fun K hK => ?_)
        simp (maxSteps := 2000000) (disch := omega) [ints, rows, scal, wr64, wr8, prO, zeO]
        (repeat' first | refine hK _ ?_ | apply And.intro) <;> clear hK K <;> try first | (show chkD _ _ = true; kernel_rfl) | omega | rfl | (simp; done) | (simp; omega)
        refine wk_list [(0, some 0), (1, some 1)] rfl ?_ ?_ ?_ ?_
        all_goals try simp [ints, prO, zeO]
      | true =>
        have e2 : (pe : Int) < (s.size : Int) := by
          rcases e1 with e1 | e1
          · cases e1
          · omega
        refine awp_R (fun K hK => ?_)
        simp (maxSteps := 2000000) (disch := omega) [ints, rows, scal, wr64, wr8, prO, zeO, e2]
        (repeat' first | refine hK _ ?_ | apply And.intro) <;> clear hK K <;> try first | (show chkD _ _ = true; kernel_rfl) | omega | rfl | (simp; done) | (simp; omega)
        refine wk_list [(0, some 0), (1, some 1)] rfl ?_ ?_ ?_ ?_
        all_goals try simp [ints, prO, zeO]
    rintro e σ ⟨rfl, hw⟩
    refine awp_weak hw ?_
    clear hw
    show awp _ _ _ _
    refine awp_cond (b := true) (p := 2) (by simp [scal] <;> omega) ?_
    refine awp_seqD (by kernel_rfl) (fun K hK => ?_)
    simp (maxSteps := 2000000) (disch := omega) [ints, rows, scal, wr64, wr8, prO, zeO, tsTerm]
    (repeat' first | refine hK _ ?_ | apply And.intro) <;> clear hK K <;> try first | (show chkD _ _ = true; kernel_rfl) | omega | rfl | (simp; done) | (simp; omega)
    refine awp_ret ?_
    rw [if_neg e0, if_pos e1]
    unfold parR
    simp only [Int.reduceEq, ↓reduceIte]
    unfold tmL
    refine ⟨⟨.inr rfl, _, [], (by first | rfl | (simp [ints, rows, scal, tsTerm, zeO, prO]; rfl)), ?_, ?_, ?_, ?_⟩, ?_⟩
    all_goals try simp [ints, rows, scal, tsTerm, zeO, prO]
  · obtain ⟨rfl, rfl⟩ : b = true ∧ pe = s.size := by
      cases b
      · exact absurd (.inl rfl) e1
      · exact ⟨rfl, by omega⟩
    have hv := oValidate_fn t
    have hvt : vTm t = if t.val = true then 0 else 21 := rfl
    refine awp_seqR (fun K hK => ?_)
    simp (maxSteps := 2000000) (disch := omega) [ints, rows, scal, wr64, wr8, prO, zeO]
    (repeat' first | refine hK _ ?_ | apply And.intro) <;> clear hK K <;> try first | (show chkD _ _ = true; kernel_rfl) | omega | rfl | (simp; done) | (simp; omega)
    refine awp_cond (b := false) (p := 2) (by simp [scal] <;> omega) ?_
    refine awp_skip ?_
    show awp _ _ _ _
    refine awp_seq ?_
    refine awp_seqR (fun K hK => ?_)
    simp (maxSteps := 2000000) (disch := omega) [ints, rows, scal, wr64, wr8, prO, zeO]
    (repeat' apply And.intro)
    all_goals (try omega)
    refine call_rule (caps := []) (hv) [] [] 2 rfl rfl rfl rfl (by kernel_rfl) (by simp) ?_ trivial trivial rfl trivial trivial (by simp) ?_
    · simp [scal, rows, ints, tmV, prO, zeO]
    simp (maxSteps := 2000000) (disch := omega) [ints, rows, scal, wr64, wr8, prO, zeO]
    (repeat' first | refine hK _ ?_ | apply And.intro) <;> clear hK K <;> try first | (show chkD _ _ = true; kernel_rfl) | omega | rfl | (simp; done) | (simp; omega)
    rw [if_neg e0, if_neg e1]
    by_cases e2 : t.val = true
    · rw [if_pos e2] at hvt
      rw [if_pos e2]
      refine awp_seqR (fun K hK => ?_)
      simp (maxSteps := 2000000) (disch := omega) [ints, rows, scal, wr64, wr8, hvt]
      (repeat' first | refine hK _ ?_ | apply And.intro) <;> clear hK K <;> try first | (show chkD _ _ = true; kernel_rfl) | omega | rfl | (simp; done) | (simp; omega)
      refine awp_cond (b := false) (p := 2) (by simp [scal] <;> omega) ?_
      refine awp_skip ?_
      show awp _ _ _ _
      refine awp_seqR (fun K hK => ?_)
      simp (maxSteps := 2000000) (disch := omega) [ints, rows, scal, wr64, wr8, prO, zeO, tsTerm]
      (repeat' first | refine hK _ ?_ | apply And.intro) <;> clear hK K <;> try first | (show chkD _ _ = true; kernel_rfl) | omega | rfl | (simp; done) | (simp; omega)
      refine awp_ret ?_
      unfold parR
      simp only [↓reduceIte]
      unfold tmV
      refine ⟨⟨.inr rfl, _, [], (by first | rfl | (simp [ints, rows, scal, tsTerm, zeO, prO]; rfl)), ?_, ?_, ?_, ?_⟩, ?_⟩
      all_goals try simp [ints, rows, scal, tsTerm, zeO, prO]
    · rw [if_neg e2] at hvt
      rw [if_neg e2]
      refine awp_seqR (fun K hK => ?_)
      simp (maxSteps := 2000000) (disch := omega) [ints, rows, scal, wr64, wr8, hvt]
      (repeat' first | refine hK _ ?_ | apply And.intro) <;> clear hK K <;> try first | (show chkD _ _ = true; kernel_rfl) | omega | rfl | (simp; done) | (simp; omega)
      refine awp_cond (b := true) (p := 2) (by simp [scal] <;> omega) ?_
      refine awp_seqR (fun K hK => ?_)
      simp (maxSteps := 2000000) (disch := omega) [ints, rows, scal, wr64, wr8, prO, zeO, tsTerm, hvt]
      (repeat' first | refine hK _ ?_ | apply And.intro) <;> clear hK K <;> try first | (show chkD _ _ = true; kernel_rfl) | omega | rfl | (simp; done) | (simp; omega)
      refine awp_ret ?_
      unfold parR
      simp only [Int.reduceEq, ↓reduceIte]
      unfold tmL
      refine ⟨⟨.inr rfl, _, [], (by first | rfl | (simp [ints, rows, scal, tsTerm, zeO, prO]; rfl)), ?_, ?_, ?_, ?_⟩, ?_⟩
      all_goals try simp [ints, rows, scal, tsTerm, zeO, prO]
theorem parP_err {s : ByteArray} (h : (parP s).2.2 ≠ 0) : (parP s).1 = .zero := by
  unfold parP at h ⊢
  split
  · rfl
  · split
    · rfl
    · split
      · rename_i h1 h2 h3
        rw [if_neg h1, if_neg h2, if_pos h3] at h
        exact absurd rfl h
      · rfl
theorem parse_fn (s : ByteArray) (hs : s.size ≤ 100000) : FnA Try.prog 9 [.t 2 (.str s)] (parV (parP s)) :=
  FnS.res' (parse_fn' s hs) fun E v h => h.upT ⟨fun E v h => by
    by_cases e : (parP s).2.2 = 0
    · rw [if_pos e] at h; exact h
    · rw [if_neg e] at h; rw [parP_err e]; exact h.zeT, fun _ _ h => h, fun _ _ h => h, trivial⟩
/-- What ParseIdentity answers: two terms, the position, the error. -/
def parI (s : ByteArray) : Tm × Tm × Int × Int :=
  if 1000 < s.size then (.zero, .zero, 0, 21)
  else if (termP s (s.size + 1) 0).2.1 = false ∨ pkB s (termP s (s.size + 1) 0).2.2 ≠ 61 then (.zero, .zero, ((termP s (s.size + 1) 0).2.2 : Int), 2)
  else if (termP s (s.size + 1) ((termP s (s.size + 1) 0).2.2 + 1)).2.1 = false ∨ (termP s (s.size + 1) ((termP s (s.size + 1) 0).2.2 + 1)).2.2 < s.size then (.zero, .zero, ((termP s (s.size + 1) ((termP s (s.size + 1) 0).2.2 + 1)).2.2 : Int), 2)
  else if (termP s (s.size + 1) 0).1.val = true ∧ (termP s (s.size + 1) ((termP s (s.size + 1) 0).2.2 + 1)).1.val = true then ((termP s (s.size + 1) 0).1, (termP s (s.size + 1) ((termP s (s.size + 1) 0).2.2 + 1)).1, -1, 0) else (.zero, .zero, 0, 21)
def pidV (x : Tm × Tm × Int × Int) : AV := .tup [idV 2 x.1 x.2.1, .t 2 (.int .i64 x.2.2.1), .t 2 (.int .i64 x.2.2.2)]
def pidR (x : Tm × Tm × Int × Int) : AV := .tup [if x.2.2.2 = 0 then idV 2 x.1 x.2.1 else idL0, .t 2 (.int .i64 x.2.2.1), .t 2 (.int .i64 x.2.2.2)]
def ziO : AObj := .box 31 [.t 2 (.int .i64 0), .t 2 (.int .i64 0), .t 2 (.sl 0 []), .t 2 (.int .i64 0), .t 2 (.int .i64 0), .t 2 (.sl 0 [])]
theorem tsIdent (h : 31 < Try.prog.types.size) : (Try.prog.types[31]'h).size = 6 := by rfl
set_option maxRecDepth 100000 in
set_option maxHeartbeats 8000000 in
theorem parseId_fn' (s : ByteArray) (hs : s.size ≤ 100000) : FnA Try.prog 11 [.t 2 (.str s)] (pidR (parI s)) := by
  have h1 := term_fn s hs (s.size + 1) 0 (by omega) (by omega)
  have hle := (termP_le (s.size + 1) 0 (s := s) (by omega)).1
  have h2 : ∀ p, p ≤ s.size → (termP s (s.size + 1) p).2.2 ≤ s.size ∧ FnS Try.prog 39 [.ptr 0 0 2] [prO s p] (.tup [tmV 2 (termP s (s.size + 1) p).1, .t 2 (.bool (termP s (s.size + 1) p).2.1)]) [prO s (termP s (s.size + 1) p).2.2] := fun p hp => ⟨(termP_le (s.size + 1) p hp).1, term_fn s hs (s.size + 1) p hp (by omega)⟩
  unfold parI
  generalize termP s (s.size + 1) = Q at h1 hle h2 ⊢
  generalize Q 0 = x at h1 hle ⊢
  obtain ⟨t, b, pe⟩ := x
  simp only at h1 hle ⊢
  refine fn_intro Try.func11 rfl (by simp [Try.f11]) ?_
  rw [show Try.f11.ntmps = 56 from rfl, show Try.f11.results = #[.cell 2 31, .tmp 3, .tmp 4] from rfl]
  refine awp_seqR (fun K hK => ?_)
  simp (maxSteps := 2000000) (disch := omega) [ints, rows, scal, wr64, wr8]
  (repeat' first | refine hK _ ?_ | apply And.intro) <;> clear hK K <;> try first | (show chkD _ _ = true; kernel_rfl) | omega | rfl | (simp; done) | (simp; omega)
  refine awp_seq ?_
  refine awp_seqR (fun K hK => ?_)
  simp (maxSteps := 2000000) (disch := omega) [ints, rows, scal, wr64, wr8]
  (repeat' first | refine hK _ ?_ | apply And.intro) <;> clear hK K <;> try first | (show chkD _ _ = true; kernel_rfl) | omega | rfl | (simp; done) | (simp; omega)
  by_cases e0 : 1000 < s.size
  · have e0' : (1000 : Int) < (s.size : Int) := by omega
    refine awp_cond (b := true) (p := 2) (by simp [scal, e0'] <;> omega) ?_
    refine awp_seqR (fun K hK => ?_)
    simp (maxSteps := 2000000) (disch := omega) [ints, rows, scal, wr64, wr8, tsIdent]
    (repeat' first | refine hK _ ?_ | apply And.intro) <;> clear hK K <;> try first | (show chkD _ _ = true; kernel_rfl) | omega | rfl | (simp; done) | (simp; omega)
    refine awp_ret ?_
    rw [if_pos e0]
    unfold pidR
    simp only [Int.reduceEq, ↓reduceIte]
    unfold idL0
    refine ⟨⟨.inr rfl, _, [], (by first | rfl | (simp [ints, rows, scal, tsIdent]; rfl)), ?_, ?_, ?_, ?_⟩, ?_⟩
    all_goals try simp [ints, rows, scal, tsIdent]
  have e0' : ¬ (1000 : Int) < (s.size : Int) := by omega
  refine awp_cond (b := false) (p := 2) (by simp [scal, e0'] <;> omega) ?_
  refine awp_skip ?_
  show awp _ _ _ _
  refine awp_seqR (fun K hK => ?_)
  simp (maxSteps := 2000000) (disch := omega) [ints, rows, scal, wr64, wr8]
  (repeat' first | refine hK _ ?_ | apply And.intro) <;> clear hK K <;> try first | (show chkD _ _ = true; kernel_rfl) | omega | rfl | (simp; done) | (simp; omega)
  refine awp_weak (σ' := mkS [(0, .t 2 (.str s)), (2, .ptr 1 0 6), (5, .ptr 0 0 2)] [(0, prO s 0), (1, ziO)] 2 56 [.any]) ?_ ?_
  · refine wk_list [(0, some 8000000), (1, some 0)] rfl ?_ ?_ ?_ ?_
    all_goals try simp [ints, prO, ziO, tsIdent]
  refine awp_seqR (fun K hK => ?_)
  simp (maxSteps := 2000000) (disch := omega) [ints, rows, scal, wr64, wr8]
  (repeat' apply And.intro)
  all_goals (try omega)
  refine call_rule (caps := []) (h1) [0] [0] 1 rfl rfl rfl rfl (by kernel_rfl) (by simp) ?_ ?_ (by simp) rfl (by simp) ⟨.inr ⟨rfl, 0, _, _, _, _, _, rfl, rfl, (by first | rfl | simp [prO]), rfl, (by first | rfl | simp [prO])⟩, trivial⟩ (by simp [prO]) ?_
  · simp [scal, rows, ints, prO]
  · simp [scal, rows, ints, prO]
  simp (maxSteps := 2000000) (disch := omega) [ints, rows, scal, wr64, wr8, prO, ziO, tmV, tsTerm]
  (repeat' first | refine hK _ ?_ | apply And.intro) <;> clear hK K <;> try first | (show chkD _ _ = true; kernel_rfl) | omega | rfl | (simp; done) | (simp; omega)
  refine awp_seq ?_
  by_cases e1 : b = false ∨ pkB s pe ≠ 61
  · refine awp_seq (awp_mono (Q := fun e σ => e = Exit.normal ∧ Wk σ (mkS [(2, .ptr 1 0 6), (5, .ptr 0 0 2), (26, .t 2 (.bool true))] [(0, prO s pe), (1, ziO)] 2 56 [.any])) ?_ ?_)
    · cases b with
      | false =>
        refine awp_R (fun K hK => ?_)
        simp (maxSteps := 2000000) (disch := omega) [ints, rows, scal, wr64, wr8, prO, ziO]
        (repeat' first | refine hK _ ?_ | apply And.intro) <;> clear hK K <;> try first | (show chkD _ _ = true; kernel_rfl) | omega | rfl | (simp; done) | (simp; omega)
        refine wk_list [(0, some 0), (1, some 1)] rfl ?_ ?_ ?_ ?_
        all_goals try simp [ints, prO, ziO]
      | true =>
        have e2 : pkB s pe ≠ 61 := by
          rcases e1 with e1 | e1
          · cases e1
          · exact e1
        have h3 := accept_no hle (by omega) (by omega) e2
        refine awp_R (fun K hK => ?_)
        simp (maxSteps := 2000000) (disch := omega) [ints, rows, scal, wr64, wr8, prO, ziO]
        (repeat' apply And.intro)
        all_goals (try omega)
        refine call_rule (caps := []) (h3) [0] [0] 1 (by simp [prO, ziO]) rfl rfl rfl (by kernel_rfl) (by simp) ?_ ?_ (by simp) rfl (by simp) ⟨.inr ⟨rfl, 0, _, _, _, _, _, rfl, rfl, (by first | rfl | simp [prO, ziO]), rfl, (by first | rfl | simp [prO, ziO])⟩, trivial⟩ (by simp [prO, ziO]) ?_
        · simp [scal, rows, ints, prO, ziO]
        · simp [scal, rows, ints, prO, ziO]
        simp (maxSteps := 2000000) (disch := omega) [ints, rows, scal, wr64, wr8, prO, ziO]
        (repeat' first | refine hK _ ?_ | apply And.intro) <;> clear hK K <;> try first | (show chkD _ _ = true; kernel_rfl) | omega | rfl | (simp; done) | (simp; omega)
        refine wk_list [(0, some 0), (1, some 1)] rfl ?_ ?_ ?_ ?_
        all_goals try simp [ints, prO, ziO]
    rintro e σ ⟨rfl, hw⟩
    refine awp_weak hw ?_
    clear hw
    show awp _ _ _ _
    refine awp_cond (b := true) (p := 2) (by simp [scal] <;> omega) ?_
    refine awp_seqD (by kernel_rfl) (fun K hK => ?_)
    simp (maxSteps := 2000000) (disch := omega) [ints, rows, scal, wr64, wr8, prO, ziO, tsIdent]
    (repeat' first | refine hK _ ?_ | apply And.intro) <;> clear hK K <;> try first | (show chkD _ _ = true; kernel_rfl) | omega | rfl | (simp; done) | (simp; omega)
    refine awp_ret ?_
    rw [if_neg e0, if_pos e1]
    unfold pidR
    simp only [Int.reduceEq, ↓reduceIte]
    unfold idL0
    refine ⟨⟨.inr rfl, _, [], (by first | rfl | (simp [ints, rows, scal, tsIdent, ziO, prO]; rfl)), ?_, ?_, ?_, ?_⟩, ?_⟩
    all_goals try simp [ints, rows, scal, tsIdent, ziO, prO]
  obtain ⟨rfl, e2⟩ : b = true ∧ pkB s pe = 61 := by
    cases b
    · exact absurd (.inl rfl) e1
    · exact ⟨rfl, Decidable.byContradiction fun h => e1 (.inr h)⟩
  rw [if_neg e0, if_neg e1]
  obtain ⟨hle1, h3⟩ := accept_yes hle (by omega) (by omega) e2
  obtain ⟨hle2, h4⟩ := h2 (pe + 1) hle1
  clear h2 h1
  generalize Q (pe + 1) = y at h4 hle2 ⊢
  obtain ⟨u, b, pf⟩ := y
  simp only at h4 hle2 ⊢
  refine awp_seqR (fun K hK => ?_)
  simp (maxSteps := 2000000) (disch := omega) [ints, rows, scal, wr64, wr8, prO, ziO]
  (repeat' apply And.intro)
  all_goals (try omega)
  refine call_rule (caps := []) (h3) [0] [0] 1 (by simp [prO, ziO]) rfl rfl rfl (by kernel_rfl) (by simp) ?_ ?_ (by simp) rfl (by simp) ⟨.inr ⟨rfl, 0, _, _, _, _, _, rfl, rfl, (by first | rfl | simp [prO, ziO]), rfl, (by first | rfl | simp [prO, ziO])⟩, trivial⟩ (by simp [prO, ziO]) ?_
  · simp [scal, rows, ints, prO, ziO]
  · simp [scal, rows, ints, prO, ziO]
  simp (maxSteps := 2000000) (disch := omega) [ints, rows, scal, wr64, wr8, prO, ziO]
  (repeat' first | refine hK _ ?_ | apply And.intro) <;> clear hK K <;> try first | (show chkD _ _ = true; kernel_rfl) | omega | rfl | (simp; done) | (simp; omega)
  refine awp_cond (b := false) (p := 2) (by simp [scal] <;> omega) ?_
  refine awp_skip ?_
  show awp _ _ _ _
  refine awp_weak (σ' := mkS [(0, .t 2 (.str s)), (2, .ptr 1 0 6), (5, .ptr 0 0 2), (6, .ptr 2 0 3)] [(0, prO s (pe + 1)), (1, ziO), (2, tmO t)] 3 56 [.any]) ?_ ?_
  · refine wk_list [(0, some 0), (1, some 1), (2, some 4000002)] rfl ?_ ?_ ?_ ?_
    all_goals try simp [ints, prO, ziO, tmO, tsTerm]
  refine awp_seqR (fun K hK => ?_)
  simp (maxSteps := 2000000) (disch := omega) [ints, rows, scal, wr64, wr8, prO, ziO, tmO]
  (repeat' apply And.intro)
  all_goals (try omega)
  refine call_rule (caps := []) (h4) [0] [0] 1 rfl rfl rfl rfl (by kernel_rfl) (by simp) ?_ ?_ (by simp) rfl (by simp) ⟨.inr ⟨rfl, 0, _, _, _, _, _, rfl, rfl, (by first | rfl | simp [prO]), rfl, (by first | rfl | simp [prO])⟩, trivial⟩ (by simp [prO]) ?_
  · simp [scal, rows, ints, prO]
  · simp [scal, rows, ints, prO]
  simp (maxSteps := 2000000) (disch := omega) [ints, rows, scal, wr64, wr8, prO, ziO, tmO, tmV, tsTerm]
  (repeat' first | refine hK _ ?_ | apply And.intro) <;> clear hK K <;> try first | (show chkD _ _ = true; kernel_rfl) | omega | rfl | (simp; done) | (simp; omega)
  refine awp_weak (σ' := mkS [(0, .t 2 (.str s)), (2, .ptr 1 0 6), (5, .ptr 0 0 2), (6, .ptr 2 0 3), (7, .t 2 (.bool b)), (8, .ptr 3 0 3)] [(0, prO s pf), (1, ziO), (2, tmO t), (3, tmO u)] 4 56 [.any]) ?_ ?_
  · refine wk_list [(0, some 0), (1, some 1), (2, some 2), (3, some 4000003)] rfl ?_ ?_ ?_ ?_
    all_goals try simp [ints, prO, ziO, tmO, tsTerm]
  refine awp_seq ?_
  by_cases e3 : b = false ∨ pf < s.size
  · refine awp_seq (awp_mono (Q := fun e σ => e = Exit.normal ∧ Wk σ (mkS [(2, .ptr 1 0 6), (5, .ptr 0 0 2), (42, .t 2 (.bool true))] [(0, prO s pf), (1, ziO)] 2 56 [.any])) ?_ ?_)
    · cases b with
      | false =>
        refine awp_R (fun K hK => ?_)
        simp (maxSteps := 2000000) (disch := omega) [ints, rows, scal, wr64, wr8, prO, ziO, tmO]
        (repeat' first | refine hK _ ?_ | apply And.intro) <;> clear hK K <;> try first | (show chkD _ _ = true; kernel_rfl) | omega | rfl | (simp; done) | (simp; omega)
        refine wk_list [(0, some 0), (1, some 1)] rfl ?_ ?_ ?_ ?_
        all_goals try simp [ints, prO, ziO]
      | true =>
        have e4 : (pf : Int) < (s.size : Int) := by
          rcases e3 with e3 | e3
          · cases e3
          · omega
        refine awp_R (fun K hK => ?_)
        simp (maxSteps := 2000000) (disch := omega) [ints, rows, scal, wr64, wr8, prO, ziO, tmO, e4]
        (repeat' first | refine hK _ ?_ | apply And.intro) <;> clear hK K <;> try first | (show chkD _ _ = true; kernel_rfl) | omega | rfl | (simp; done) | (simp; omega)
        refine wk_list [(0, some 0), (1, some 1)] rfl ?_ ?_ ?_ ?_
        all_goals try simp [ints, prO, ziO]
    rintro e σ ⟨rfl, hw⟩
    refine awp_weak hw ?_
    clear hw
    show awp _ _ _ _
    refine awp_cond (b := true) (p := 2) (by simp [scal] <;> omega) ?_
    refine awp_seqD (by kernel_rfl) (fun K hK => ?_)
    simp (maxSteps := 2000000) (disch := omega) [ints, rows, scal, wr64, wr8, prO, ziO, tsIdent]
    (repeat' first | refine hK _ ?_ | apply And.intro) <;> clear hK K <;> try first | (show chkD _ _ = true; kernel_rfl) | omega | rfl | (simp; done) | (simp; omega)
    refine awp_ret ?_
    rw [if_pos e3]
    unfold pidR
    simp only [Int.reduceEq, ↓reduceIte]
    unfold idL0
    refine ⟨⟨.inr rfl, _, [], (by first | rfl | (simp [ints, rows, scal, tsIdent, ziO, prO]; rfl)), ?_, ?_, ?_, ?_⟩, ?_⟩
    all_goals try simp [ints, rows, scal, tsIdent, ziO, prO]
  rw [if_neg e3]
  obtain ⟨rfl, rfl⟩ : b = true ∧ pf = s.size := by
    cases b
    · exact absurd (.inl rfl) e3
    · exact ⟨rfl, by omega⟩
  have hv := oValidId_fn t u
  refine awp_seqR (fun K hK => ?_)
  simp (maxSteps := 2000000) (disch := omega) [ints, rows, scal, wr64, wr8, prO, ziO, tmO]
  (repeat' first | refine hK _ ?_ | apply And.intro) <;> clear hK K <;> try first | (show chkD _ _ = true; kernel_rfl) | omega | rfl | (simp; done) | (simp; omega)
  refine awp_cond (b := false) (p := 2) (by simp [scal] <;> omega) ?_
  refine awp_skip ?_
  show awp _ _ _ _
  refine awp_seqR (fun K hK => ?_)
  simp (maxSteps := 2000000) (disch := omega) [ints, rows, scal, wr64, wr8, prO, ziO, tmO, tsIdent, tsTerm]
  (repeat' first | refine hK _ ?_ | apply And.intro) <;> clear hK K <;> try first | (show chkD _ _ = true; kernel_rfl) | omega | rfl | (simp; done) | (simp; omega)
  refine awp_weak (σ' := mkS [(2, .ptr 0 0 6), (9, .ptr 1 0 6)] [(0, ziO), (1, .box 31 [.t 2 (.int .i64 t.op), .t 2 (.int .i64 t.n), .t 2 (.sl 3 (cellsL t.args)), .t 2 (.int .i64 u.op), .t 2 (.int .i64 u.n), .t 2 (.sl 3 (cellsL u.args))])] 2 56 [.any]) ?_ ?_
  · refine wk_list [(0, some 1), (1, some 12000004)] rfl ?_ ?_ ?_ ?_
    all_goals try simp [ints, prO, ziO, tmO, tsIdent, tsTerm]
  refine awp_seq ?_
  refine awp_seqR (fun K hK => ?_)
  simp (maxSteps := 2000000) (disch := omega) [ints, rows, scal, wr64, wr8, ziO]
  (repeat' apply And.intro)
  all_goals (try omega)
  refine call_rule (caps := []) (hv) [] [] 2 rfl rfl rfl rfl (by kernel_rfl) (by simp) ?_ trivial trivial rfl trivial trivial (by simp) ?_
  · simp [scal, rows, ints, idV, ziO]
  simp (maxSteps := 2000000) (disch := omega) [ints, rows, scal, wr64, wr8, ziO]
  (repeat' first | refine hK _ ?_ | apply And.intro) <;> clear hK K <;> try first | (show chkD _ _ = true; kernel_rfl) | omega | rfl | (simp; done) | (simp; omega)
  by_cases e4 : t.val = true ∧ u.val = true
  · have hvt : vId t u = 0 := by unfold vId vTm; rw [if_pos e4.1, if_pos e4.2]
    rw [if_pos e4]
    refine awp_seqR (fun K hK => ?_)
    simp (maxSteps := 2000000) (disch := omega) [ints, rows, scal, wr64, wr8, hvt]
    (repeat' first | refine hK _ ?_ | apply And.intro) <;> clear hK K <;> try first | (show chkD _ _ = true; kernel_rfl) | omega | rfl | (simp; done) | (simp; omega)
    refine awp_cond (b := false) (p := 2) (by simp [scal] <;> omega) ?_
    refine awp_skip ?_
    show awp _ _ _ _
    refine awp_seqR (fun K hK => ?_)
    simp (maxSteps := 2000000) (disch := omega) [ints, rows, scal, wr64, wr8, ziO, tsIdent]
    (repeat' first | refine hK _ ?_ | apply And.intro) <;> clear hK K <;> try first | (show chkD _ _ = true; kernel_rfl) | omega | rfl | (simp; done) | (simp; omega)
    refine awp_ret ?_
    unfold pidR
    simp only [↓reduceIte]
    unfold idV
    refine ⟨⟨.inr rfl, _, [], (by first | rfl | (simp [ints, rows, scal, tsIdent, ziO]; rfl)), ?_, ?_, ?_, ?_⟩, ?_⟩
    all_goals try simp [ints, rows, scal, tsIdent, ziO]
  · have hvt : vId t u = 21 := by
      unfold vId vTm
      by_cases h : t.val = true
      · rw [if_pos h, if_neg (fun h2 => e4 ⟨h, h2⟩)]
      · rw [if_neg h]
    rw [if_neg e4]
    refine awp_seqR (fun K hK => ?_)
    simp (maxSteps := 2000000) (disch := omega) [ints, rows, scal, wr64, wr8, hvt]
    (repeat' first | refine hK _ ?_ | apply And.intro) <;> clear hK K <;> try first | (show chkD _ _ = true; kernel_rfl) | omega | rfl | (simp; done) | (simp; omega)
    refine awp_cond (b := true) (p := 2) (by simp [scal] <;> omega) ?_
    refine awp_seqR (fun K hK => ?_)
    simp (maxSteps := 2000000) (disch := omega) [ints, rows, scal, wr64, wr8, ziO, tsIdent, hvt]
    (repeat' first | refine hK _ ?_ | apply And.intro) <;> clear hK K <;> try first | (show chkD _ _ = true; kernel_rfl) | omega | rfl | (simp; done) | (simp; omega)
    refine awp_ret ?_
    unfold pidR
    simp only [Int.reduceEq, ↓reduceIte]
    unfold idL0
    refine ⟨⟨.inr rfl, _, [], (by first | rfl | (simp [ints, rows, scal, tsIdent, ziO]; rfl)), ?_, ?_, ?_, ?_⟩, ?_⟩
    all_goals try simp [ints, rows, scal, tsIdent, ziO]
theorem parI_err {s : ByteArray} (h : (parI s).2.2.2 ≠ 0) : (parI s).1 = .zero ∧ (parI s).2.1 = .zero := by
  unfold parI at h ⊢
  split
  · exact ⟨rfl, rfl⟩
  · split
    · exact ⟨rfl, rfl⟩
    · split
      · exact ⟨rfl, rfl⟩
      · split
        · rename_i h1 h2 h3 h4
          rw [if_neg h1, if_neg h2, if_neg h3, if_pos h4] at h
          exact absurd rfl h
        · exact ⟨rfl, rfl⟩
theorem parseId_fn (s : ByteArray) (hs : s.size ≤ 100000) : FnA Try.prog 11 [.t 2 (.str s)] (pidV (parI s)) :=
  FnS.res' (parseId_fn' s hs) fun E v h => h.upT ⟨fun E v h => by
    by_cases e : (parI s).2.2.2 = 0
    · rw [if_pos e] at h; exact h
    · rw [if_neg e] at h; rw [(parI_err e).1, (parI_err e).2]; exact h.zeI, fun _ _ h => h, fun _ _ h => h, trivial⟩
end Go.Proofs.Ytghnmmfkckneaaa.M

namespace Go.Proofs.Ytghnmmfkckneaaa.M
open Go.RowKit
set_option linter.unusedVariables false
set_option linter.unusedSimpArgs false

def rdO (s : ByteArray) (pos : Nat) (f : Bool) : AObj := .box 73 [.t 2 (.str s), .t 2 (.int .i64 (pos : Int)), .t 2 (.bool f)]
set_option maxRecDepth 100000 in
set_option maxHeartbeats 8000000 in
theorem rpeek_fn (s : ByteArray) (pos : Nat) (f : Bool) (hp : pos ≤ s.size) (hs : s.size ≤ 1000000) : FnS Try.prog 41 [.ptr 0 0 3] [rdO s pos f] (.t 2 (.int .u8 (pkB s (skipS s pos)))) [rdO s (skipS s pos) f] := by
  refine fn_intro Try.func41 rfl (by simp [Try.f41]) ?_
  rw [show Try.f41.ntmps = 51 from rfl, show Try.f41.results = #[.tmp 2] from rfl]
  refine awp_seqR (fun K hK => ?_)
  simp (maxSteps := 2000000) (disch := omega) [ints, rows, scal, wr64, wr8]
  (repeat' first | refine hK _ ?_ | apply And.intro) <;> clear hK K <;> try first | (show chkD _ _ = true; kernel_rfl) | omega | rfl | (simp; done) | (simp; omega)
  refine awp_seq ?_
  refine awp_block ?_
  refine awp_loop (fun q : Nat => mkS [(0, .ptr 0 0 3)] [(0, rdO s q f)] 1 51 [.ptr 0 0 3]) (fun q => q ≤ s.size ∧ skipS s q = skipS s pos) (fun q => s.size - q) ?_ ?_
  · refine ⟨pos, ⟨hp, rfl⟩, ?_⟩
    refine wk_list [(0, some 0)] rfl ?_ ?_ ?_ ?_
    all_goals try simp [ints, rdO]
  rintro q ⟨hq, hsk⟩
  refine awp_seq ?_
  by_cases he : q = s.size
  · subst he
    have hpk : pkB s s.size = 0 := by unfold pkB; rw [if_pos rfl]
    have hsk2 : skipS s pos = s.size := by rw [← hsk]; exact skipS_id (Nat.le_refl _) (by rw [hpk]; omega)
    rw [hsk2, hpk]
    refine awp_seqD (by kernel_rfl) (fun K hK => ?_)
    simp (maxSteps := 2000000) (disch := omega) [ints, rows, scal, wr64, wr8, rdO]
    (repeat' first | refine hK _ ?_ | apply And.intro) <;> clear hK K <;> try first | (show chkD _ _ = true; kernel_rfl) | omega | rfl | (simp; done) | (simp; omega)
    refine awp_cond (b := false) (p := 2) (by simp [scal] <;> omega) ?_
    refine awp_exit ?_
    show awp _ _ _ _
    refine awp_seq ?_
    refine awp_seqD (by kernel_rfl) (fun K hK => ?_)
    simp (maxSteps := 2000000) (disch := omega) [ints, rows, scal, wr64, wr8, rdO]
    (repeat' first | refine hK _ ?_ | apply And.intro) <;> clear hK K <;> try first | (show chkD _ _ = true; kernel_rfl) | omega | rfl | (simp; done) | (simp; omega)
    refine awp_cond (b := false) (p := 2) (by simp [scal] <;> omega) ?_
    refine awp_skip ?_
    show awp _ _ _ _
    refine awp_seqR (fun K hK => ?_)
    simp (maxSteps := 2000000) (disch := omega) [ints, rows, scal, wr64, wr8]
    (repeat' first | refine hK _ ?_ | apply And.intro) <;> clear hK K <;> try first | (show chkD _ _ = true; kernel_rfl) | omega | rfl | (simp; done) | (simp; omega)
    refine awp_ret ?_
    refine ⟨⟨.inr rfl, _, [(0, some 0)], (by first | rfl | (simp [ints, rows, scal, rdO]; rfl)), ?_, ?_, ?_, ?_⟩, ?_⟩
    all_goals try simp [ints, rows, scal, rdO]
  have hlt : q < s.size := by omega
  have hpk : pkB s q = byteAt s q := by unfold pkB; rw [if_neg he]
  by_cases e : byteAt s q = 32
  · have hlt' : (q : Int) < (s.size : Int) := by omega
    refine awp_seqD (by kernel_rfl) (fun K hK => ?_)
    simp (maxSteps := 2000000) (disch := omega) [ints, rows, scal, wr64, wr8, rdO, hlt, e]
    (repeat' first | refine hK _ ?_ | apply And.intro) <;> clear hK K <;> try first | (show chkD _ _ = true; kernel_rfl) | omega | rfl | (simp; done) | (simp; omega)
    refine awp_cond (b := true) (p := 2) (by simp [scal] <;> omega) ?_
    refine awp_skip ?_
    show awp _ _ _ _
    refine awp_block ?_
    refine awp_R (fun K hK => ?_)
    simp (maxSteps := 2000000) (disch := omega) [ints, rows, scal, wr64, wr8, rdO]
    (repeat' first | refine hK _ ?_ | apply And.intro) <;> clear hK K <;> try first | (show chkD _ _ = true; kernel_rfl) | omega | rfl | (simp; done) | (simp; omega)
    rw [skipS_eq hq, if_pos (by rw [hpk]; exact e)] at hsk
    refine ⟨q + 1, ⟨by omega, hsk⟩, by omega, ?_⟩
    refine wk_list [(0, some 0)] rfl ?_ ?_ ?_ ?_
    all_goals try simp [ints, rdO]
  · have hsk2 : skipS s pos = q := by rw [← hsk]; exact skipS_id hq (by rw [hpk]; exact e)
    rw [hsk2, hpk]
    refine awp_seqD (by kernel_rfl) (fun K hK => ?_)
    simp (maxSteps := 2000000) (disch := omega) [ints, rows, scal, wr64, wr8, rdO, hlt, e]
    (repeat' first | refine hK _ ?_ | apply And.intro) <;> clear hK K <;> try first | (show chkD _ _ = true; kernel_rfl) | omega | rfl | (simp; done) | (simp; omega)
    refine awp_cond (b := false) (p := 2) (by simp [scal, e] <;> omega) ?_
    refine awp_exit ?_
    show awp _ _ _ _
    refine awp_seq ?_
    refine awp_seqD (by kernel_rfl) (fun K hK => ?_)
    simp (maxSteps := 2000000) (disch := omega) [ints, rows, scal, wr64, wr8, rdO, hlt]
    (repeat' first | refine hK _ ?_ | apply And.intro) <;> clear hK K <;> try first | (show chkD _ _ = true; kernel_rfl) | omega | rfl | (simp; done) | (simp; omega)
    refine awp_cond (b := true) (p := 2) (by simp [scal, hlt] <;> omega) ?_
    refine awp_seqD (by kernel_rfl) (fun K hK => ?_)
    simp (maxSteps := 2000000) (disch := omega) [ints, rows, scal, wr64, wr8, rdO, hlt]
    (repeat' first | refine hK _ ?_ | apply And.intro) <;> clear hK K <;> try first | (show chkD _ _ = true; kernel_rfl) | omega | rfl | (simp; done) | (simp; omega)
    refine awp_ret ?_
    refine ⟨⟨.inr rfl, _, [(0, some 0)], (by first | rfl | (simp [ints, rows, scal, rdO]; rfl)), ?_, ?_, ?_, ?_⟩, ?_⟩
    all_goals try simp [ints, rows, scal, rdO]
theorem names_at {i : Nat} (h : i < 6) : byteAt namesB i = [120, 121, 122, 117, 118, 116].getD i 0 := by
  rcases (by omega : i = 0 ∨ i = 1 ∨ i = 2 ∨ i = 3 ∨ i = 4 ∨ i = 5) with rfl | rfl | rfl | rfl | rfl | rfl <;> rfl
set_option maxRecDepth 100000 in
set_option maxHeartbeats 8000000 in
theorem rvariable_fn (c : Int) : FnA Try.prog 111 [.t 2 (.int .u8 c)] (.t 2 (.int .i64 (varI c))) := by
  have key : ∀ i : Nat, i ≤ 6 → (∀ j, j < i → byteAt namesB j ≠ c) → (∀ h : i < 6, byteAt namesB i = c → varI c = i) ∧ (i = 6 → varI c = -1) := by
    intro i hi hno
    have g : ∀ j, j < i → [120, 121, 122, 117, 118, 116].getD j 0 ≠ c := fun j hj => by rw [← names_at (by omega)]; exact hno j hj
    refine ⟨fun h hc => ?_, fun h => ?_⟩
    · rw [names_at h] at hc
      unfold varI
      rcases (by omega : i = 0 ∨ i = 1 ∨ i = 2 ∨ i = 3 ∨ i = 4 ∨ i = 5) with rfl | rfl | rfl | rfl | rfl | rfl <;> simp at hc <;> subst hc <;> rfl
    · subst h
      have g0 := g 0 (by omega)
      have g1 := g 1 (by omega)
      have g2 := g 2 (by omega)
      have g3 := g 3 (by omega)
      have g4 := g 4 (by omega)
      have g5 := g 5 (by omega)
      simp at g0 g1 g2 g3 g4 g5
      unfold varI
      rw [if_neg (by omega), if_neg (by omega), if_neg (by omega), if_neg (by omega), if_neg (by omega), if_neg (by omega)]
  refine fn_intro Try.func111 rfl (by simp [Try.f111]) ?_
  rw [show Try.f111.ntmps = 13 from rfl, show Try.f111.results = #[.tmp 2] from rfl]
  refine awp_seqR (fun K hK => ?_)
  simp (maxSteps := 2000000) (disch := omega) [ints, rows, scal, wr64, wr8]
  (repeat' first | refine hK _ ?_ | apply And.intro) <;> clear hK K <;> try first | (show chkD _ _ = true; kernel_rfl) | omega | rfl | (simp; done) | (simp; omega)
  refine awp_seq ?_
  refine awp_seqR (fun K hK => ?_)
  simp (maxSteps := 2000000) (disch := omega) [ints, rows, scal, wr64, wr8]
  (repeat' first | refine hK _ ?_ | apply And.intro) <;> clear hK K <;> try first | (show chkD _ _ = true; kernel_rfl) | omega | rfl | (simp; done) | (simp; omega)
  refine awp_block ?_
  refine awp_loop (fun i : Nat => mkS [(0, .t 2 (.int .u8 c)), (3, .t 2 (.int .i64 (i : Nat)))] [] 0 13 [.any]) (fun i => i ≤ 6 ∧ ∀ j, j < i → byteAt namesB j ≠ c) (fun i => 6 - i) ?_ ?_
  · refine ⟨0, ⟨by omega, fun j hj => by omega⟩, ?_⟩
    refine wk_list [] rfl ?_ ?_ ?_ ?_
    all_goals try simp [ints]
  rintro i ⟨hi, hno⟩
  obtain ⟨k1, k2⟩ := key i hi hno
  have hsz : ((⟨#[120, 121, 122, 117, 118, 116]⟩ : ByteArray).size : Int) = 6 := rfl
  refine awp_seq ?_
  by_cases hlt : i < 6
  · have hlt' : (i : Int) < 6 := by omega
    refine awp_seqR (fun K hK => ?_)
    simp (maxSteps := 2000000) (disch := omega) [ints, rows, scal, wr64, wr8]
    (repeat' first | refine hK _ ?_ | apply And.intro) <;> clear hK K <;> try first | (show chkD _ _ = true; kernel_rfl) | omega | rfl | (simp; done) | (simp; omega)
    refine awp_cond (b := true) (p := 2) (by simp [scal, hlt'] <;> omega) ?_
    refine awp_skip ?_
    show awp _ _ _ _
    refine awp_seq ?_
    refine awp_block ?_
    by_cases e : byteAt namesB i = c
    · have hr := k1 hlt e
      have e2 : byteAt ⟨#[120, 121, 122, 117, 118, 116]⟩ i = c := e
      refine awp_seqR (fun K hK => ?_)
      simp (maxSteps := 2000000) (disch := omega) [ints, rows, scal, wr64, wr8, hsz, e2]
      (repeat' first | refine hK _ ?_ | apply And.intro) <;> clear hK K <;> try first | (show chkD _ _ = true; kernel_rfl) | omega | rfl | (simp; done) | (simp; omega)
      refine awp_cond (b := true) (p := 2) (by simp [scal] <;> omega) ?_
      refine awp_seqR (fun K hK => ?_)
      simp (maxSteps := 2000000) (disch := omega) [ints, rows, scal, wr64, wr8]
      (repeat' first | refine hK _ ?_ | apply And.intro) <;> clear hK K <;> try first | (show chkD _ _ = true; kernel_rfl) | omega | rfl | (simp; done) | (simp; omega)
      refine awp_ret ?_
      refine ⟨⟨.inr rfl, _, [], rfl, trivial, trivial, by simp [hr], ?_⟩, by simp [hr]⟩
      simp [hr]
    · have e2 : ¬ byteAt ⟨#[120, 121, 122, 117, 118, 116]⟩ i = c := e
      refine awp_seqR (fun K hK => ?_)
      simp (maxSteps := 2000000) (disch := omega) [ints, rows, scal, wr64, wr8, hsz, e2]
      (repeat' first | refine hK _ ?_ | apply And.intro) <;> clear hK K <;> try first | (show chkD _ _ = true; kernel_rfl) | omega | rfl | (simp; done) | (simp; omega)
      refine awp_cond (b := false) (p := 2) (by simp [scal, e2] <;> omega) ?_
      refine awp_skip ?_
      show awp _ _ _ _
      refine awp_R (fun K hK => ?_)
      simp (maxSteps := 2000000) (disch := omega) [ints, rows, scal, wr64, wr8]
      (repeat' first | refine hK _ ?_ | apply And.intro) <;> clear hK K <;> try first | (show chkD _ _ = true; kernel_rfl) | omega | rfl | (simp; done) | (simp; omega)
      refine ⟨i + 1, ⟨by omega, fun j hj => ?_⟩, by omega, ?_⟩
      · by_cases h : j = i
        · subst h; exact e
        · exact hno j (by omega)
      refine wk_list [] rfl ?_ ?_ ?_ ?_
      all_goals try simp [ints]
  · obtain rfl : i = 6 := by omega
    have hr := k2 rfl
    refine awp_seqR (fun K hK => ?_)
    simp (maxSteps := 2000000) (disch := omega) [ints, rows, scal, wr64, wr8]
    (repeat' first | refine hK _ ?_ | apply And.intro) <;> clear hK K <;> try first | (show chkD _ _ = true; kernel_rfl) | omega | rfl | (simp; done) | (simp; omega)
    refine awp_cond (b := false) (p := 2) (by simp [scal] <;> omega) ?_
    refine awp_exit ?_
    show awp _ _ _ _
    refine awp_seqR (fun K hK => ?_)
    simp (maxSteps := 2000000) (disch := omega) [ints, rows, scal, wr64, wr8]
    (repeat' first | refine hK _ ?_ | apply And.intro) <;> clear hK K <;> try first | (show chkD _ _ = true; kernel_rfl) | omega | rfl | (simp; done) | (simp; omega)
    refine awp_ret ?_
    refine ⟨⟨.inr rfl, _, [], rfl, trivial, trivial, by simp [hr], ?_⟩, by simp [hr]⟩
    simp [hr]
theorem begB_0 : begB 0 = decide (0 ≤ varI 0) := by decide
set_option maxRecDepth 100000 in
set_option maxHeartbeats 4000000 in
theorem rbegins_fn {c : Int} (h0 : 0 ≤ c) (h1 : c < 256) : FnA Try.prog 78 [.t 2 (.int .u8 c)] (.t 2 (.bool (begB c))) := by
  have h := rvariable_fn c
  refine fn_intro Try.func78 rfl (by simp [Try.f78]) ?_
  rw [show Try.f78.ntmps = 14 from rfl, show Try.f78.results = #[.tmp 2] from rfl]
  refine awp_seqR (fun K hK => ?_)
  simp (maxSteps := 2000000) (disch := omega) [ints, rows, scal, wr64, wr8]
  (repeat' first | refine hK _ ?_ | apply And.intro) <;> clear hK K <;> try first | (show chkD _ _ = true; kernel_rfl) | omega | rfl | (simp; done) | (simp; omega)
  by_cases e1 : c = 49
  · subst e1
    refine awp_seqR (fun K hK => ?_)
    simp (maxSteps := 2000000) (disch := omega) [ints, rows, scal, wr64, wr8]
    (repeat' first | refine hK _ ?_ | apply And.intro) <;> clear hK K <;> try first | (show chkD _ _ = true; kernel_rfl) | omega | rfl | (simp; done) | (simp; omega)
    all_goals (refine awp_ret ?_; refine ⟨⟨.inr rfl, _, [], rfl, trivial, trivial, by simp [begB], ?_⟩, by simp [begB]⟩; simp [begB])
  by_cases e2 : c = 40
  · subst e2
    refine awp_seqR (fun K hK => ?_)
    simp (maxSteps := 2000000) (disch := omega) [ints, rows, scal, wr64, wr8]
    (repeat' first | refine hK _ ?_ | apply And.intro) <;> clear hK K <;> try first | (show chkD _ _ = true; kernel_rfl) | omega | rfl | (simp; done) | (simp; omega)
    all_goals (refine awp_ret ?_; refine ⟨⟨.inr rfl, _, [], rfl, trivial, trivial, by simp [begB], ?_⟩, by simp [begB]⟩; simp [begB])
  have b1 : (c == 49) = false := by simpa using e1
  have b2 : (c == 40) = false := by simpa using e2
  have hb : begB c = decide (0 ≤ varI c) := by
    by_cases e3 : c = 0
    · subst e3; exact begB_0
    · unfold begB; simp [e1, e2, e3]
  refine awp_seqR (fun K hK => ?_)
  simp (maxSteps := 2000000) (disch := omega) [ints, rows, scal, wr64, wr8, b1, b2, e1, e2]
  (repeat' apply And.intro)
  all_goals (try omega)
  refine call_rule (caps := []) (h) [] [] 2 (by simp [scal, rows, ints, b1, b2, e1, e2]) rfl rfl rfl (by kernel_rfl) (by simp) ?_ trivial trivial rfl trivial trivial (by simp) ?_
  · simp [scal, rows, ints, b1, b2, e1, e2]
  simp (maxSteps := 2000000) (disch := omega) [ints, rows, scal, wr64, wr8, b1, b2, e1, e2]
  (repeat' first | refine hK _ ?_ | apply And.intro) <;> clear hK K <;> try first | (show chkD _ _ = true; kernel_rfl) | omega | rfl | (simp; done) | (simp; omega)
  all_goals (refine awp_ret ?_; refine ⟨⟨.inr rfl, _, [], rfl, trivial, trivial, by simp [hb], ?_⟩, by simp [hb]⟩; simp [hb])
/-- A byte of a set. -/
def inS (set : ByteArray) (c : Int) : Prop := ∃ i, i < set.size ∧ byteAt set i = c
open Classical in
noncomputable def expP (set : ByteArray) (s : ByteArray) (pos : Nat) (f : Bool) : Int × Nat × Bool := if pos < s.size ∧ inS set (byteAt s pos) then (byteAt s pos, pos + 1, f) else (0, pos, true)
set_option maxRecDepth 100000 in
set_option maxHeartbeats 8000000 in
theorem expect_fn (set : ByteArray) (hset : set.size ≤ 100) (s : ByteArray) (pos : Nat) (f : Bool) (hp : pos ≤ s.size) (hs : s.size ≤ 1000000) :
    FnS Try.prog 129 [.ptr 0 0 3, .t 2 (.str set)] [rdO s pos f] (.t 2 (.int .u8 (expP set s pos f).1)) [rdO s (expP set s pos f).2.1 (expP set s pos f).2.2] := by
  refine fn_intro Try.func129 rfl (by simp [Try.f129]) ?_
  rw [show Try.f129.ntmps = 48 from rfl, show Try.f129.results = #[.tmp 4] from rfl]
  refine awp_seqR (fun K hK => ?_)
  simp (maxSteps := 2000000) (disch := omega) [ints, rows, scal, wr64, wr8]
  (repeat' first | refine hK _ ?_ | apply And.intro) <;> clear hK K <;> try first | (show chkD _ _ = true; kernel_rfl) | omega | rfl | (simp; done) | (simp; omega)
  refine awp_seq ?_
  by_cases hlt : pos < s.size
  case neg =>
    have hr : expP set s pos f = (0, pos, true) := by unfold expP; rw [if_neg (fun h => hlt h.1)]
    rw [hr]
    refine awp_seqD (by kernel_rfl) (fun K hK => ?_)
    simp (maxSteps := 2000000) (disch := omega) [ints, rows, scal, wr64, wr8, rdO, hlt]
    (repeat' first | refine hK _ ?_ | apply And.intro) <;> clear hK K <;> try first | (show chkD _ _ = true; kernel_rfl) | omega | rfl | (simp; done) | (simp; omega)
    refine awp_cond (b := false) (p := 2) (by simp [scal, hlt] <;> omega) ?_
    refine awp_skip ?_
    show awp _ _ _ _
    refine awp_seqR (fun K hK => ?_)
    simp (maxSteps := 2000000) (disch := omega) [ints, rows, scal, wr64, wr8, rdO]
    (repeat' first | refine hK _ ?_ | apply And.intro) <;> clear hK K <;> try first | (show chkD _ _ = true; kernel_rfl) | omega | rfl | (simp; done) | (simp; omega)
    refine awp_seqR (fun K hK => ?_)
    simp (maxSteps := 2000000) (disch := omega) [ints, rows, scal, wr64, wr8]
    (repeat' first | refine hK _ ?_ | apply And.intro) <;> clear hK K <;> try first | (show chkD _ _ = true; kernel_rfl) | omega | rfl | (simp; done) | (simp; omega)
    refine awp_ret ?_
    refine ⟨⟨.inr rfl, _, [(0, some 0)], (by first | rfl | (simp [ints, rows, scal, rdO]; rfl)), ?_, ?_, ?_, ?_⟩, ?_⟩
    all_goals try simp [ints, rows, scal, rdO]
  refine awp_seqD (by kernel_rfl) (fun K hK => ?_)
  simp (maxSteps := 2000000) (disch := omega) [ints, rows, scal, wr64, wr8, rdO, hlt]
  (repeat' first | refine hK _ ?_ | apply And.intro) <;> clear hK K <;> try first | (show chkD _ _ = true; kernel_rfl) | omega | rfl | (simp; done) | (simp; omega)
  refine awp_cond (b := true) (p := 2) (by simp [scal, hlt] <;> omega) ?_
  refine awp_seqR (fun K hK => ?_)
  simp (maxSteps := 2000000) (disch := omega) [ints, rows, scal, wr64, wr8]
  (repeat' first | refine hK _ ?_ | apply And.intro) <;> clear hK K <;> try first | (show chkD _ _ = true; kernel_rfl) | omega | rfl | (simp; done) | (simp; omega)
  refine awp_block ?_
  refine awp_loop (fun i : Nat => mkS [(0, .ptr 0 0 3), (1, .t 2 (.str set)), (5, .t 2 (.int .i64 (i : Nat)))] [(0, rdO s pos f)] 1 48 [.ptr 0 0 3, .any]) (fun i => i ≤ set.size ∧ ∀ j, j < i → byteAt set j ≠ byteAt s pos) (fun i => set.size - i) ?_ ?_
  · refine ⟨0, ⟨by omega, fun j hj => by omega⟩, ?_⟩
    refine wk_list [(0, some 0)] rfl ?_ ?_ ?_ ?_
    all_goals try simp [ints, rdO]
  rintro i ⟨hi, hno⟩
  refine awp_seq ?_
  by_cases hil : i < set.size
  · refine awp_seqR (fun K hK => ?_)
    simp (maxSteps := 2000000) (disch := omega) [ints, rows, scal, wr64, wr8]
    (repeat' first | refine hK _ ?_ | apply And.intro) <;> clear hK K <;> try first | (show chkD _ _ = true; kernel_rfl) | omega | rfl | (simp; done) | (simp; omega)
    refine awp_cond (b := true) (p := 2) (by simp [scal, hil] <;> omega) ?_
    refine awp_skip ?_
    show awp _ _ _ _
    refine awp_seq ?_
    refine awp_block ?_
    by_cases e : byteAt s pos = byteAt set i
    · have hr : expP set s pos f = (byteAt s pos, pos + 1, f) := by unfold expP; rw [if_pos ⟨hlt, i, hil, e.symm⟩]
      rw [hr]
      refine awp_seqD (by kernel_rfl) (fun K hK => ?_)
      simp (maxSteps := 2000000) (disch := omega) [ints, rows, scal, wr64, wr8, rdO, hlt, hil, e]
      (repeat' first | refine hK _ ?_ | apply And.intro) <;> clear hK K <;> try first | (show chkD _ _ = true; kernel_rfl) | omega | rfl | (simp; done) | (simp; omega)
      refine awp_cond (b := true) (p := 2) (by simp [scal] <;> omega) ?_
      refine awp_seqR (fun K hK => ?_)
      simp (maxSteps := 2000000) (disch := omega) [ints, rows, scal, wr64, wr8, rdO]
      (repeat' first | refine hK _ ?_ | apply And.intro) <;> clear hK K <;> try first | (show chkD _ _ = true; kernel_rfl) | omega | rfl | (simp; done) | (simp; omega)
      refine awp_seqR (fun K hK => ?_)
      simp (maxSteps := 2000000) (disch := omega) [ints, rows, scal, wr64, wr8, hil]
      (repeat' first | refine hK _ ?_ | apply And.intro) <;> clear hK K <;> try first | (show chkD _ _ = true; kernel_rfl) | omega | rfl | (simp; done) | (simp; omega)
      refine awp_ret ?_
      refine ⟨⟨.inr rfl, _, [(0, some 0)], (by first | rfl | (simp [ints, rows, scal, rdO, e]; rfl)), ?_, ?_, ?_, ?_⟩, ?_⟩
      all_goals try simp [ints, rows, scal, rdO, e]
    · refine awp_seqD (by kernel_rfl) (fun K hK => ?_)
      simp (maxSteps := 2000000) (disch := omega) [ints, rows, scal, wr64, wr8, rdO, hlt, hil, e]
      (repeat' first | refine hK _ ?_ | apply And.intro) <;> clear hK K <;> try first | (show chkD _ _ = true; kernel_rfl) | omega | rfl | (simp; done) | (simp; omega)
      refine awp_cond (b := false) (p := 2) (by simp [scal, e] <;> omega) ?_
      refine awp_skip ?_
      show awp _ _ _ _
      refine awp_R (fun K hK => ?_)
      simp (maxSteps := 2000000) (disch := omega) [ints, rows, scal, wr64, wr8]
      (repeat' first | refine hK _ ?_ | apply And.intro) <;> clear hK K <;> try first | (show chkD _ _ = true; kernel_rfl) | omega | rfl | (simp; done) | (simp; omega)
      refine ⟨i + 1, ⟨by omega, fun j hj => ?_⟩, by omega, ?_⟩
      · by_cases h : j = i
        · subst h; exact fun h => e h.symm
        · exact hno j (by omega)
      refine wk_list [(0, some 0)] rfl ?_ ?_ ?_ ?_
      all_goals try simp [ints, rdO]
  · obtain rfl : i = set.size := by omega
    have hr : expP set s pos f = (0, pos, true) := by unfold expP; rw [if_neg (fun h => by obtain ⟨-, j, hj, he⟩ := h; exact hno j hj he)]
    rw [hr]
    refine awp_seqR (fun K hK => ?_)
    simp (maxSteps := 2000000) (disch := omega) [ints, rows, scal, wr64, wr8]
    (repeat' first | refine hK _ ?_ | apply And.intro) <;> clear hK K <;> try first | (show chkD _ _ = true; kernel_rfl) | omega | rfl | (simp; done) | (simp; omega)
    refine awp_cond (b := false) (p := 2) (by simp [scal] <;> omega) ?_
    refine awp_exit ?_
    show awp _ _ _ _
    refine awp_seqR (fun K hK => ?_)
    simp (maxSteps := 2000000) (disch := omega) [ints, rows, scal, wr64, wr8, rdO]
    (repeat' first | refine hK _ ?_ | apply And.intro) <;> clear hK K <;> try first | (show chkD _ _ = true; kernel_rfl) | omega | rfl | (simp; done) | (simp; omega)
    refine awp_seqR (fun K hK => ?_)
    simp (maxSteps := 2000000) (disch := omega) [ints, rows, scal, wr64, wr8]
    (repeat' first | refine hK _ ?_ | apply And.intro) <;> clear hK K <;> try first | (show chkD _ _ = true; kernel_rfl) | omega | rfl | (simp; done) | (simp; omega)
    refine awp_ret ?_
    refine ⟨⟨.inr rfl, _, [(0, some 0)], (by first | rfl | (simp [ints, rows, scal, rdO]; rfl)), ?_, ?_, ?_, ?_⟩, ?_⟩
    all_goals try simp [ints, rows, scal, rdO]
end Go.Proofs.Ytghnmmfkckneaaa.M

namespace Go.Proofs.Ytghnmmfkckneaaa.M
open Go.RowKit
set_option linter.unusedVariables false
set_option linter.unusedSimpArgs false

theorem inS_iff (a : Array UInt8) (c : Int) : inS ⟨a⟩ c ↔ c ∈ a.toList.map (fun b => (b.toNat : Int)) := by
  constructor
  · rintro ⟨i, hi, h⟩
    have hi : i < a.size := hi
    refine List.mem_map.2 ⟨a[i], Array.getElem_mem_toList hi, ?_⟩
    rw [← h]
    unfold byteAt
    have : (⟨a⟩ : ByteArray)[i]? = some a[i] := by
      rw [getElem?_pos (⟨a⟩ : ByteArray) i hi]
      rfl
    rw [this]
    rfl
  · intro h
    obtain ⟨b, hb, rfl⟩ := List.mem_map.1 h
    obtain ⟨i, hi, rfl⟩ := List.getElem_of_mem hb
    have hi2 : i < a.size := by simpa using hi
    refine ⟨i, hi2, ?_⟩
    unfold byteAt
    have : (⟨a⟩ : ByteArray)[i]? = some a[i] := by
      rw [getElem?_pos (⟨a⟩ : ByteArray) i hi2]
      rfl
    rw [this]
    simp
theorem expP_yes {set s : ByteArray} {pos : Nat} {f : Bool} {c : Int} (hp : pos ≤ s.size) (h : pkB s pos = c) (hc : c ≠ 0) (hi : inS set c) : expP set s pos f = (c, pos + 1, f) := by
  have hlt := pkB_lt hp hc h
  have hb : byteAt s pos = c := by rw [← h]; unfold pkB; rw [if_neg (by omega)]
  unfold expP
  rw [hb, if_pos ⟨hlt, hi⟩]
theorem expP_no {set s : ByteArray} {pos : Nat} {f : Bool} (hp : pos ≤ s.size) (hi : ¬ inS set (pkB s pos)) : expP set s pos f = (0, pos, true) := by
  unfold expP
  rw [if_neg]
  rintro ⟨h1, h2⟩
  refine hi ?_
  have hb : byteAt s pos = pkB s pos := by unfold pkB; rw [if_neg (by omega)]
  rw [← hb]; exact h2
theorem expect_yes {set : ByteArray} (hset : set.size ≤ 100) {s : ByteArray} {pos : Nat} (f : Bool) {c : Int} (hp : pos ≤ s.size) (hs : s.size ≤ 1000000) (h : pkB s pos = c) (hc : c ≠ 0) (hi : inS set c) :
    pos + 1 ≤ s.size ∧ FnS Try.prog 129 [.ptr 0 0 3, .t 2 (.str set)] [rdO s pos f] (.t 2 (.int .u8 c)) [rdO s (pos + 1) f] := by
  have := expect_fn set hset s pos f hp hs
  rw [expP_yes hp h hc hi] at this
  exact ⟨pkB_lt hp hc h, this⟩
theorem expect_no {set : ByteArray} (hset : set.size ≤ 100) {s : ByteArray} {pos : Nat} (f : Bool) (hp : pos ≤ s.size) (hs : s.size ≤ 1000000) (hi : ¬ inS set (pkB s pos)) :
    FnS Try.prog 129 [.ptr 0 0 3, .t 2 (.str set)] [rdO s pos f] (.t 2 (.int .u8 0)) [rdO s pos true] := by
  have := expect_fn set hset s pos f hp hs
  rw [expP_no hp hi] at this
  exact this
/-- The number that the reference's exponent gives. -/
def rexV (s : ByteArray) (pos : Nat) : Int := if pkB s (pos + 1 + 1) = 45 ∧ pkB s (pos + 1 + 1 + 1) ≠ 49 then 0 else (expS s pos).1
theorem rexV_ok {s : ByteArray} {pos : Nat} (h : (expS s pos).2.1 = true) : rexV s pos = (expS s pos).1 := by
  unfold rexV
  by_cases hc : pkB s (pos + 1 + 1) = 45 ∧ pkB s (pos + 1 + 1 + 1) ≠ 49
  · rw [if_pos hc]
    unfold expS at h ⊢
    by_cases e1 : pkB s pos = 119
    · rw [if_pos e1]
    rw [if_neg e1] at h
    by_cases e2 : pkB s pos ≠ 40
    · rw [if_pos e2] at h; cases h
    rw [if_neg e2] at h
    by_cases e3 : pkB s (pos + 1) ≠ 119
    · rw [if_pos e3] at h; cases h
    rw [if_neg e3, if_pos hc.1, if_pos hc.2] at h
    cases h
  · rw [if_neg hc]
set_option maxRecDepth 100000 in
set_option maxHeartbeats 16000000 in
theorem rexponent_fn (s : ByteArray) (pos : Nat) (hp : pos ≤ s.size) (hs : s.size ≤ 1000000) : FnS Try.prog 112 [.ptr 0 0 3] [rdO s pos false] (.t 2 (.int .i64 (rexV s pos))) [rdO s (expS s pos).2.2 (!(expS s pos).2.1)] := by
  have hz1 : (⟨#[119, 40]⟩ : ByteArray).size ≤ 100 := by decide +kernel
  have hz2 : (⟨#[119]⟩ : ByteArray).size ≤ 100 := by decide +kernel
  have hz3 : (⟨#[43, 45]⟩ : ByteArray).size ≤ 100 := by decide +kernel
  have hz4 : (⟨#[49]⟩ : ByteArray).size ≤ 100 := by decide +kernel
  have hz5 : (⟨#[49, 50, 51, 52, 53, 54, 55, 56, 57]⟩ : ByteArray).size ≤ 100 := by decide +kernel
  have hz6 : (⟨#[41]⟩ : ByteArray).size ≤ 100 := by decide +kernel
  refine fn_intro Try.func112 rfl (by simp [Try.f112]) ?_
  rw [show Try.f112.ntmps = 47 from rfl, show Try.f112.results = #[.tmp 2] from rfl]
  refine awp_seqR (fun K hK => ?_)
  simp (maxSteps := 2000000) (disch := omega) [ints, rows, scal, wr64, wr8]
  (repeat' first | refine hK _ ?_ | apply And.intro) <;> clear hK K <;> try first | (show chkD _ _ = true; kernel_rfl) | omega | rfl | (simp; done) | (simp; omega)
  by_cases e1 : pkB s pos = 119
  · obtain ⟨-, h1⟩ := expect_yes hz1 false hp hs e1 (by omega) ((inS_iff _ _).2 (by simp))
    have hres : expS s pos = (0, true, pos + 1) := by unfold expS; rw [if_pos e1]
    have hv : rexV s pos = 0 := by rw [rexV_ok (by rw [hres]), hres]
    rw [hres, hv]
    refine awp_seqR (fun K hK => ?_)
    simp (maxSteps := 2000000) (disch := omega) [ints, rows, scal, wr64, wr8]
    (repeat' apply And.intro)
    all_goals (try omega)
    refine call_rule (caps := []) (h1) [0] [0] 1 rfl rfl rfl rfl (by kernel_rfl) (by simp) ?_ ?_ (by simp) rfl (by simp) ⟨.inr ⟨rfl, 0, _, _, _, _, _, rfl, rfl, (by first | rfl | simp [rdO]), rfl, (by first | rfl | simp [rdO])⟩, trivial⟩ (by simp [rdO]) ?_
    · simp [scal, rows, ints, rdO]
    · simp [scal, rows, ints, rdO]
    simp (maxSteps := 2000000) (disch := omega) [ints, rows, scal, wr64, wr8, rdO]
    (repeat' first | refine hK _ ?_ | apply And.intro) <;> clear hK K <;> try first | (show chkD _ _ = true; kernel_rfl) | omega | rfl | (simp; done) | (simp; omega)
    refine awp_seq ?_
    refine awp_seqR (fun K hK => ?_)
    simp (maxSteps := 2000000) (disch := omega) [ints, rows, scal, wr64, wr8, rdO]
    (repeat' first | refine hK _ ?_ | apply And.intro) <;> clear hK K <;> try first | (show chkD _ _ = true; kernel_rfl) | omega | rfl | (simp; done) | (simp; omega)
    refine awp_cond (b := true) (p := 2) (by simp [scal] <;> omega) ?_
    refine awp_seqR (fun K hK => ?_)
    simp (maxSteps := 2000000) (disch := omega) [ints, rows, scal, wr64, wr8]
    (repeat' first | refine hK _ ?_ | apply And.intro) <;> clear hK K <;> try first | (show chkD _ _ = true; kernel_rfl) | omega | rfl | (simp; done) | (simp; omega)
    refine awp_ret ?_
    refine ⟨⟨.inr rfl, _, [(0, some 0)], (by first | rfl | (simp [ints, rows, scal, rdO]; rfl)), ?_, ?_, ?_, ?_⟩, ?_⟩
    all_goals try simp [ints, rows, scal, rdO]
  by_cases e2 : pkB s pos = 40
  case neg =>
    have h1 := expect_no hz1 false hp hs (fun h => by have := (inS_iff _ _).1 h; simp at this; omega)
    have hres : expS s pos = (0, false, pos) := by unfold expS; rw [if_neg e1, if_pos e2]
    have hv : rexV s pos = 0 := by unfold rexV; rw [hres]; simp
    rw [hres, hv]
    refine awp_seqR (fun K hK => ?_)
    simp (maxSteps := 2000000) (disch := omega) [ints, rows, scal, wr64, wr8]
    (repeat' apply And.intro)
    all_goals (try omega)
    refine call_rule (caps := []) (h1) [0] [0] 1 rfl rfl rfl rfl (by kernel_rfl) (by simp) ?_ ?_ (by simp) rfl (by simp) ⟨.inr ⟨rfl, 0, _, _, _, _, _, rfl, rfl, (by first | rfl | simp [rdO]), rfl, (by first | rfl | simp [rdO])⟩, trivial⟩ (by simp [rdO]) ?_
    · simp [scal, rows, ints, rdO]
    · simp [scal, rows, ints, rdO]
    simp (maxSteps := 2000000) (disch := omega) [ints, rows, scal, wr64, wr8, rdO]
    (repeat' first | refine hK _ ?_ | apply And.intro) <;> clear hK K <;> try first | (show chkD _ _ = true; kernel_rfl) | omega | rfl | (simp; done) | (simp; omega)
    refine awp_seq ?_
    refine awp_seqR (fun K hK => ?_)
    simp (maxSteps := 2000000) (disch := omega) [ints, rows, scal, wr64, wr8, rdO]
    (repeat' first | refine hK _ ?_ | apply And.intro) <;> clear hK K <;> try first | (show chkD _ _ = true; kernel_rfl) | omega | rfl | (simp; done) | (simp; omega)
    refine awp_cond (b := true) (p := 2) (by simp [scal] <;> omega) ?_
    refine awp_seqR (fun K hK => ?_)
    simp (maxSteps := 2000000) (disch := omega) [ints, rows, scal, wr64, wr8]
    (repeat' first | refine hK _ ?_ | apply And.intro) <;> clear hK K <;> try first | (show chkD _ _ = true; kernel_rfl) | omega | rfl | (simp; done) | (simp; omega)
    refine awp_ret ?_
    refine ⟨⟨.inr rfl, _, [(0, some 0)], (by first | rfl | (simp [ints, rows, scal, rdO]; rfl)), ?_, ?_, ?_, ?_⟩, ?_⟩
    all_goals try simp [ints, rows, scal, rdO]
  obtain ⟨hp1, h1⟩ := expect_yes hz1 false hp hs e2 (by omega) ((inS_iff _ _).2 (by simp))
  have hne2 : ¬ pkB s pos ≠ 40 := by simpa using e2
  refine awp_seqR (fun K hK => ?_)
  simp (maxSteps := 2000000) (disch := omega) [ints, rows, scal, wr64, wr8]
  (repeat' apply And.intro)
  all_goals (try omega)
  refine call_rule (caps := []) (h1) [0] [0] 1 rfl rfl rfl rfl (by kernel_rfl) (by simp) ?_ ?_ (by simp) rfl (by simp) ⟨.inr ⟨rfl, 0, _, _, _, _, _, rfl, rfl, (by first | rfl | simp [rdO]), rfl, (by first | rfl | simp [rdO])⟩, trivial⟩ (by simp [rdO]) ?_
  · simp [scal, rows, ints, rdO]
  · simp [scal, rows, ints, rdO]
  simp (maxSteps := 2000000) (disch := omega) [ints, rows, scal, wr64, wr8, rdO]
  (repeat' first | refine hK _ ?_ | apply And.intro) <;> clear hK K <;> try first | (show chkD _ _ = true; kernel_rfl) | omega | rfl | (simp; done) | (simp; omega)
  refine awp_seq ?_
  refine awp_seqR (fun K hK => ?_)
  simp (maxSteps := 2000000) (disch := omega) [ints, rows, scal, wr64, wr8, rdO]
  (repeat' first | refine hK _ ?_ | apply And.intro) <;> clear hK K <;> try first | (show chkD _ _ = true; kernel_rfl) | omega | rfl | (simp; done) | (simp; omega)
  refine awp_cond (b := false) (p := 2) (by simp [scal] <;> omega) ?_
  refine awp_skip ?_
  show awp _ _ _ _
  by_cases e3 : pkB s (pos + 1) = 119
  case neg =>
    have h2 := expect_no hz2 false hp1 hs (fun h => by have := (inS_iff _ _).1 h; simp at this; omega)
    have hres : expS s pos = (0, false, pos + 1) := by unfold expS; rw [if_neg e1, if_neg hne2, if_pos e3]
    have hv : rexV s pos = 0 := by unfold rexV; rw [hres]; simp
    rw [hres, hv]
    refine awp_seqR (fun K hK => ?_)
    simp (maxSteps := 2000000) (disch := omega) [ints, rows, scal, wr64, wr8]
    (repeat' apply And.intro)
    all_goals (try omega)
    refine call_rule (caps := []) (h2) [0] [0] 1 rfl rfl rfl rfl (by kernel_rfl) (by simp) ?_ ?_ (by simp) rfl (by simp) ⟨.inr ⟨rfl, 0, _, _, _, _, _, rfl, rfl, (by first | rfl | simp [rdO]), rfl, (by first | rfl | simp [rdO])⟩, trivial⟩ (by simp [rdO]) ?_
    · simp [scal, rows, ints, rdO]
    · simp [scal, rows, ints, rdO]
    simp (maxSteps := 2000000) (disch := omega) [ints, rows, scal, wr64, wr8, rdO]
    (repeat' first | refine hK _ ?_ | apply And.intro) <;> clear hK K <;> try first | (show chkD _ _ = true; kernel_rfl) | omega | rfl | (simp; done) | (simp; omega)
    refine awp_seq ?_
    refine awp_seqR (fun K hK => ?_)
    simp (maxSteps := 2000000) (disch := omega) [ints, rows, scal, wr64, wr8, rdO]
    (repeat' first | refine hK _ ?_ | apply And.intro) <;> clear hK K <;> try first | (show chkD _ _ = true; kernel_rfl) | omega | rfl | (simp; done) | (simp; omega)
    refine awp_cond (b := true) (p := 2) (by simp [scal] <;> omega) ?_
    refine awp_seqR (fun K hK => ?_)
    simp (maxSteps := 2000000) (disch := omega) [ints, rows, scal, wr64, wr8]
    (repeat' first | refine hK _ ?_ | apply And.intro) <;> clear hK K <;> try first | (show chkD _ _ = true; kernel_rfl) | omega | rfl | (simp; done) | (simp; omega)
    refine awp_ret ?_
    refine ⟨⟨.inr rfl, _, [(0, some 0)], (by first | rfl | (simp [ints, rows, scal, rdO]; rfl)), ?_, ?_, ?_, ?_⟩, ?_⟩
    all_goals try simp [ints, rows, scal, rdO]
  obtain ⟨hp2, h2⟩ := expect_yes hz2 false hp1 hs e3 (by omega) ((inS_iff _ _).2 (by simp))
  have hne3 : ¬ pkB s (pos + 1) ≠ 119 := by simpa using e3
  refine awp_seqR (fun K hK => ?_)
  simp (maxSteps := 2000000) (disch := omega) [ints, rows, scal, wr64, wr8]
  (repeat' apply And.intro)
  all_goals (try omega)
  refine call_rule (caps := []) (h2) [0] [0] 1 rfl rfl rfl rfl (by kernel_rfl) (by simp) ?_ ?_ (by simp) rfl (by simp) ⟨.inr ⟨rfl, 0, _, _, _, _, _, rfl, rfl, (by first | rfl | simp [rdO]), rfl, (by first | rfl | simp [rdO])⟩, trivial⟩ (by simp [rdO]) ?_
  · simp [scal, rows, ints, rdO]
  · simp [scal, rows, ints, rdO]
  simp (maxSteps := 2000000) (disch := omega) [ints, rows, scal, wr64, wr8, rdO]
  (repeat' first | refine hK _ ?_ | apply And.intro) <;> clear hK K <;> try first | (show chkD _ _ = true; kernel_rfl) | omega | rfl | (simp; done) | (simp; omega)
  refine awp_seq ?_
  refine awp_seqR (fun K hK => ?_)
  simp (maxSteps := 2000000) (disch := omega) [ints, rows, scal, wr64, wr8, rdO]
  (repeat' first | refine hK _ ?_ | apply And.intro) <;> clear hK K <;> try first | (show chkD _ _ = true; kernel_rfl) | omega | rfl | (simp; done) | (simp; omega)
  refine awp_cond (b := false) (p := 2) (by simp [scal] <;> omega) ?_
  refine awp_skip ?_
  show awp _ _ _ _
  by_cases e4 : pkB s (pos + 1 + 1) = 45
  · obtain ⟨hp3, h3⟩ := expect_yes hz3 false hp2 hs e4 (by omega) ((inS_iff _ _).2 (by simp))
    refine awp_seqR (fun K hK => ?_)
    simp (maxSteps := 2000000) (disch := omega) [ints, rows, scal, wr64, wr8]
    (repeat' apply And.intro)
    all_goals (try omega)
    refine call_rule (caps := []) (h3) [0] [0] 1 rfl rfl rfl rfl (by kernel_rfl) (by simp) ?_ ?_ (by simp) rfl (by simp) ⟨.inr ⟨rfl, 0, _, _, _, _, _, rfl, rfl, (by first | rfl | simp [rdO]), rfl, (by first | rfl | simp [rdO])⟩, trivial⟩ (by simp [rdO]) ?_
    · simp [scal, rows, ints, rdO]
    · simp [scal, rows, ints, rdO]
    simp (maxSteps := 2000000) (disch := omega) [ints, rows, scal, wr64, wr8, rdO]
    (repeat' first | refine hK _ ?_ | apply And.intro) <;> clear hK K <;> try first | (show chkD _ _ = true; kernel_rfl) | omega | rfl | (simp; done) | (simp; omega)
    refine awp_seq ?_
    refine awp_seqR (fun K hK => ?_)
    simp (maxSteps := 2000000) (disch := omega) [ints, rows, scal, wr64, wr8, rdO]
    (repeat' first | refine hK _ ?_ | apply And.intro) <;> clear hK K <;> try first | (show chkD _ _ = true; kernel_rfl) | omega | rfl | (simp; done) | (simp; omega)
    refine awp_cond (b := false) (p := 2) (by simp [scal] <;> omega) ?_
    refine awp_skip ?_
    show awp _ _ _ _
    refine awp_seqR (fun K hK => ?_)
    simp (maxSteps := 2000000) (disch := omega) [ints, rows, scal, wr64, wr8]
    (repeat' first | refine hK _ ?_ | apply And.intro) <;> clear hK K <;> try first | (show chkD _ _ = true; kernel_rfl) | omega | rfl | (simp; done) | (simp; omega)
    refine awp_seq ?_
    refine awp_seqR (fun K hK => ?_)
    simp (maxSteps := 2000000) (disch := omega) [ints, rows, scal, wr64, wr8]
    (repeat' first | refine hK _ ?_ | apply And.intro) <;> clear hK K <;> try first | (show chkD _ _ = true; kernel_rfl) | omega | rfl | (simp; done) | (simp; omega)
    refine awp_cond (b := true) (p := 2) (by simp [scal] <;> omega) ?_
    refine awp_R (fun K hK => ?_)
    simp (maxSteps := 2000000) (disch := omega) [ints, rows, scal, wr64, wr8]
    (repeat' first | refine hK _ ?_ | apply And.intro) <;> clear hK K <;> try first | (show chkD _ _ = true; kernel_rfl) | omega | rfl | (simp; done) | (simp; omega)
    show awp _ _ _ _
    by_cases e5 : pkB s (pos + 1 + 1 + 1) = 49
    case neg =>
      have h4 := expect_no hz4 false hp3 hs (fun h => by have := (inS_iff _ _).1 h; simp at this; omega)
      have hres : expS s pos = (-1, false, pos + 1 + 1 + 1) := by unfold expS; rw [if_neg e1, if_neg hne2, if_neg hne3, if_pos e4, if_pos e5]
      have hv : rexV s pos = 0 := by unfold rexV; rw [if_pos ⟨e4, e5⟩]
      rw [hres, hv]
      refine awp_seqR (fun K hK => ?_)
      simp (maxSteps := 2000000) (disch := omega) [ints, rows, scal, wr64, wr8]
      (repeat' apply And.intro)
      all_goals (try omega)
      refine call_rule (caps := []) (h4) [0] [0] 1 rfl rfl rfl rfl (by kernel_rfl) (by simp) ?_ ?_ (by simp) rfl (by simp) ⟨.inr ⟨rfl, 0, _, _, _, _, _, rfl, rfl, (by first | rfl | simp [rdO]), rfl, (by first | rfl | simp [rdO])⟩, trivial⟩ (by simp [rdO]) ?_
      · simp [scal, rows, ints, rdO]
      · simp [scal, rows, ints, rdO]
      simp (maxSteps := 2000000) (disch := omega) [ints, rows, scal, wr64, wr8, rdO]
      (repeat' first | refine hK _ ?_ | apply And.intro) <;> clear hK K <;> try first | (show chkD _ _ = true; kernel_rfl) | omega | rfl | (simp; done) | (simp; omega)
      refine awp_seq ?_
      refine awp_seqR (fun K hK => ?_)
      simp (maxSteps := 2000000) (disch := omega) [ints, rows, scal, wr64, wr8, rdO]
      (repeat' first | refine hK _ ?_ | apply And.intro) <;> clear hK K <;> try first | (show chkD _ _ = true; kernel_rfl) | omega | rfl | (simp; done) | (simp; omega)
      refine awp_cond (b := true) (p := 2) (by simp [scal] <;> omega) ?_
      refine awp_seqR (fun K hK => ?_)
      simp (maxSteps := 2000000) (disch := omega) [ints, rows, scal, wr64, wr8]
      (repeat' first | refine hK _ ?_ | apply And.intro) <;> clear hK K <;> try first | (show chkD _ _ = true; kernel_rfl) | omega | rfl | (simp; done) | (simp; omega)
      refine awp_ret ?_
      refine ⟨⟨.inr rfl, _, [(0, some 0)], (by first | rfl | (simp [ints, rows, scal, rdO]; rfl)), ?_, ?_, ?_, ?_⟩, ?_⟩
      all_goals try simp [ints, rows, scal, rdO]
    obtain ⟨hp4, h4⟩ := expect_yes hz4 false hp3 hs e5 (by omega) ((inS_iff _ _).2 (by simp))
    have hne5 : ¬ pkB s (pos + 1 + 1 + 1) ≠ 49 := by simpa using e5
    have hv0 : rexV s pos = (expS s pos).1 := by unfold rexV; rw [if_neg (fun h => h.2 e5)]
    rw [hv0]
    refine awp_seqR (fun K hK => ?_)
    simp (maxSteps := 2000000) (disch := omega) [ints, rows, scal, wr64, wr8]
    (repeat' apply And.intro)
    all_goals (try omega)
    refine call_rule (caps := []) (h4) [0] [0] 1 rfl rfl rfl rfl (by kernel_rfl) (by simp) ?_ ?_ (by simp) rfl (by simp) ⟨.inr ⟨rfl, 0, _, _, _, _, _, rfl, rfl, (by first | rfl | simp [rdO]), rfl, (by first | rfl | simp [rdO])⟩, trivial⟩ (by simp [rdO]) ?_
    · simp [scal, rows, ints, rdO]
    · simp [scal, rows, ints, rdO]
    simp (maxSteps := 2000000) (disch := omega) [ints, rows, scal, wr64, wr8, rdO]
    (repeat' first | refine hK _ ?_ | apply And.intro) <;> clear hK K <;> try first | (show chkD _ _ = true; kernel_rfl) | omega | rfl | (simp; done) | (simp; omega)
    refine awp_seq ?_
    refine awp_seqR (fun K hK => ?_)
    simp (maxSteps := 2000000) (disch := omega) [ints, rows, scal, wr64, wr8, rdO]
    (repeat' first | refine hK _ ?_ | apply And.intro) <;> clear hK K <;> try first | (show chkD _ _ = true; kernel_rfl) | omega | rfl | (simp; done) | (simp; omega)
    refine awp_cond (b := false) (p := 2) (by simp [scal] <;> omega) ?_
    refine awp_skip ?_
    show awp _ _ _ _
    by_cases e6 : pkB s (pos + 1 + 1 + 1 + 1) = 41
    · obtain ⟨hp5, h5⟩ := expect_yes hz6 false hp4 hs e6 (by omega) ((inS_iff _ _).2 (by simp))
      have hres : expS s pos = (-1, true, pos + 1 + 1 + 1 + 1 + 1) := by unfold expS; rw [if_neg e1, if_neg hne2, if_neg hne3, if_pos e4, if_neg hne5, if_neg (by simpa using e6)]
      rw [hres]
      refine awp_seqR (fun K hK => ?_)
      simp (maxSteps := 2000000) (disch := omega) [ints, rows, scal, wr64, wr8]
      (repeat' apply And.intro)
      all_goals (try omega)
      refine call_rule (caps := []) (h5) [0] [0] 1 rfl rfl rfl rfl (by kernel_rfl) (by simp) ?_ ?_ (by simp) rfl (by simp) ⟨.inr ⟨rfl, 0, _, _, _, _, _, rfl, rfl, (by first | rfl | simp [rdO]), rfl, (by first | rfl | simp [rdO])⟩, trivial⟩ (by simp [rdO]) ?_
      · simp [scal, rows, ints, rdO]
      · simp [scal, rows, ints, rdO]
      simp (maxSteps := 2000000) (disch := omega) [ints, rows, scal, wr64, wr8, rdO]
      (repeat' first | refine hK _ ?_ | apply And.intro) <;> clear hK K <;> try first | (show chkD _ _ = true; kernel_rfl) | omega | rfl | (simp; done) | (simp; omega)
      refine awp_seq ?_
      refine awp_seqR (fun K hK => ?_)
      simp (maxSteps := 2000000) (disch := omega) [ints, rows, scal, wr64, wr8]
      (repeat' first | refine hK _ ?_ | apply And.intro) <;> clear hK K <;> try first | (show chkD _ _ = true; kernel_rfl) | omega | rfl | (simp; done) | (simp; omega)
      refine awp_cond (b := true) (p := 2) (by simp [scal] <;> omega) ?_
      refine awp_R (fun K hK => ?_)
      simp (maxSteps := 2000000) (disch := omega) [ints, rows, scal, wr64, wr8]
      (repeat' first | refine hK _ ?_ | apply And.intro) <;> clear hK K <;> try first | (show chkD _ _ = true; kernel_rfl) | omega | rfl | (simp; done) | (simp; omega)
      show awp _ _ _ _
      refine awp_seqR (fun K hK => ?_)
      simp (maxSteps := 2000000) (disch := omega) [ints, rows, scal, wr64, wr8]
      (repeat' first | refine hK _ ?_ | apply And.intro) <;> clear hK K <;> try first | (show chkD _ _ = true; kernel_rfl) | omega | rfl | (simp; done) | (simp; omega)
      refine awp_ret ?_
      refine ⟨⟨.inr rfl, _, [(0, some 0)], (by first | rfl | (simp [ints, rows, scal, rdO]; rfl)), ?_, ?_, ?_, ?_⟩, ?_⟩
      all_goals try simp [ints, rows, scal, rdO]
    · have h5 := expect_no hz6 false hp4 hs (fun h => by have := (inS_iff _ _).1 h; simp at this; omega)
      have hres : expS s pos = (-1, false, pos + 1 + 1 + 1 + 1) := by unfold expS; rw [if_neg e1, if_neg hne2, if_neg hne3, if_pos e4, if_neg hne5, if_pos e6]
      rw [hres]
      refine awp_seqR (fun K hK => ?_)
      simp (maxSteps := 2000000) (disch := omega) [ints, rows, scal, wr64, wr8]
      (repeat' apply And.intro)
      all_goals (try omega)
      refine call_rule (caps := []) (h5) [0] [0] 1 rfl rfl rfl rfl (by kernel_rfl) (by simp) ?_ ?_ (by simp) rfl (by simp) ⟨.inr ⟨rfl, 0, _, _, _, _, _, rfl, rfl, (by first | rfl | simp [rdO]), rfl, (by first | rfl | simp [rdO])⟩, trivial⟩ (by simp [rdO]) ?_
      · simp [scal, rows, ints, rdO]
      · simp [scal, rows, ints, rdO]
      simp (maxSteps := 2000000) (disch := omega) [ints, rows, scal, wr64, wr8, rdO]
      (repeat' first | refine hK _ ?_ | apply And.intro) <;> clear hK K <;> try first | (show chkD _ _ = true; kernel_rfl) | omega | rfl | (simp; done) | (simp; omega)
      refine awp_seq ?_
      refine awp_seqR (fun K hK => ?_)
      simp (maxSteps := 2000000) (disch := omega) [ints, rows, scal, wr64, wr8]
      (repeat' first | refine hK _ ?_ | apply And.intro) <;> clear hK K <;> try first | (show chkD _ _ = true; kernel_rfl) | omega | rfl | (simp; done) | (simp; omega)
      refine awp_cond (b := true) (p := 2) (by simp [scal] <;> omega) ?_
      refine awp_R (fun K hK => ?_)
      simp (maxSteps := 2000000) (disch := omega) [ints, rows, scal, wr64, wr8]
      (repeat' first | refine hK _ ?_ | apply And.intro) <;> clear hK K <;> try first | (show chkD _ _ = true; kernel_rfl) | omega | rfl | (simp; done) | (simp; omega)
      show awp _ _ _ _
      refine awp_seqR (fun K hK => ?_)
      simp (maxSteps := 2000000) (disch := omega) [ints, rows, scal, wr64, wr8]
      (repeat' first | refine hK _ ?_ | apply And.intro) <;> clear hK K <;> try first | (show chkD _ _ = true; kernel_rfl) | omega | rfl | (simp; done) | (simp; omega)
      refine awp_ret ?_
      refine ⟨⟨.inr rfl, _, [(0, some 0)], (by first | rfl | (simp [ints, rows, scal, rdO]; rfl)), ?_, ?_, ?_, ?_⟩, ?_⟩
      all_goals try simp [ints, rows, scal, rdO]
  have hv0 : rexV s pos = (expS s pos).1 := by unfold rexV; rw [if_neg (fun h => e4 h.1)]
  rw [hv0]
  by_cases e5 : pkB s (pos + 1 + 1) = 43
  case neg =>
    have h3 := expect_no hz3 false hp2 hs (fun h => by have := (inS_iff _ _).1 h; simp at this; omega)
    have hres : expS s pos = (0, false, pos + 1 + 1) := by unfold expS; rw [if_neg e1, if_neg hne2, if_neg hne3, if_neg e4, if_pos e5]
    rw [hres]
    refine awp_seqR (fun K hK => ?_)
    simp (maxSteps := 2000000) (disch := omega) [ints, rows, scal, wr64, wr8]
    (repeat' apply And.intro)
    all_goals (try omega)
    refine call_rule (caps := []) (h3) [0] [0] 1 rfl rfl rfl rfl (by kernel_rfl) (by simp) ?_ ?_ (by simp) rfl (by simp) ⟨.inr ⟨rfl, 0, _, _, _, _, _, rfl, rfl, (by first | rfl | simp [rdO]), rfl, (by first | rfl | simp [rdO])⟩, trivial⟩ (by simp [rdO]) ?_
    · simp [scal, rows, ints, rdO]
    · simp [scal, rows, ints, rdO]
    simp (maxSteps := 2000000) (disch := omega) [ints, rows, scal, wr64, wr8, rdO]
    (repeat' first | refine hK _ ?_ | apply And.intro) <;> clear hK K <;> try first | (show chkD _ _ = true; kernel_rfl) | omega | rfl | (simp; done) | (simp; omega)
    refine awp_seq ?_
    refine awp_seqR (fun K hK => ?_)
    simp (maxSteps := 2000000) (disch := omega) [ints, rows, scal, wr64, wr8, rdO]
    (repeat' first | refine hK _ ?_ | apply And.intro) <;> clear hK K <;> try first | (show chkD _ _ = true; kernel_rfl) | omega | rfl | (simp; done) | (simp; omega)
    refine awp_cond (b := true) (p := 2) (by simp [scal] <;> omega) ?_
    refine awp_seqR (fun K hK => ?_)
    simp (maxSteps := 2000000) (disch := omega) [ints, rows, scal, wr64, wr8]
    (repeat' first | refine hK _ ?_ | apply And.intro) <;> clear hK K <;> try first | (show chkD _ _ = true; kernel_rfl) | omega | rfl | (simp; done) | (simp; omega)
    refine awp_ret ?_
    refine ⟨⟨.inr rfl, _, [(0, some 0)], (by first | rfl | (simp [ints, rows, scal, rdO]; rfl)), ?_, ?_, ?_, ?_⟩, ?_⟩
    all_goals try simp [ints, rows, scal, rdO]
  obtain ⟨hp3, h3⟩ := expect_yes hz3 false hp2 hs e5 (by omega) ((inS_iff _ _).2 (by simp))
  have hne5 : ¬ pkB s (pos + 1 + 1) ≠ 43 := by simpa using e5
  refine awp_seqR (fun K hK => ?_)
  simp (maxSteps := 2000000) (disch := omega) [ints, rows, scal, wr64, wr8]
  (repeat' apply And.intro)
  all_goals (try omega)
  refine call_rule (caps := []) (h3) [0] [0] 1 rfl rfl rfl rfl (by kernel_rfl) (by simp) ?_ ?_ (by simp) rfl (by simp) ⟨.inr ⟨rfl, 0, _, _, _, _, _, rfl, rfl, (by first | rfl | simp [rdO]), rfl, (by first | rfl | simp [rdO])⟩, trivial⟩ (by simp [rdO]) ?_
  · simp [scal, rows, ints, rdO]
  · simp [scal, rows, ints, rdO]
  simp (maxSteps := 2000000) (disch := omega) [ints, rows, scal, wr64, wr8, rdO]
  (repeat' first | refine hK _ ?_ | apply And.intro) <;> clear hK K <;> try first | (show chkD _ _ = true; kernel_rfl) | omega | rfl | (simp; done) | (simp; omega)
  refine awp_seq ?_
  refine awp_seqR (fun K hK => ?_)
  simp (maxSteps := 2000000) (disch := omega) [ints, rows, scal, wr64, wr8, rdO]
  (repeat' first | refine hK _ ?_ | apply And.intro) <;> clear hK K <;> try first | (show chkD _ _ = true; kernel_rfl) | omega | rfl | (simp; done) | (simp; omega)
  refine awp_cond (b := false) (p := 2) (by simp [scal] <;> omega) ?_
  refine awp_skip ?_
  show awp _ _ _ _
  refine awp_seqR (fun K hK => ?_)
  simp (maxSteps := 2000000) (disch := omega) [ints, rows, scal, wr64, wr8]
  (repeat' first | refine hK _ ?_ | apply And.intro) <;> clear hK K <;> try first | (show chkD _ _ = true; kernel_rfl) | omega | rfl | (simp; done) | (simp; omega)
  refine awp_seq ?_
  refine awp_seqR (fun K hK => ?_)
  simp (maxSteps := 2000000) (disch := omega) [ints, rows, scal, wr64, wr8]
  (repeat' first | refine hK _ ?_ | apply And.intro) <;> clear hK K <;> try first | (show chkD _ _ = true; kernel_rfl) | omega | rfl | (simp; done) | (simp; omega)
  refine awp_cond (b := false) (p := 2) (by simp [scal] <;> omega) ?_
  refine awp_skip ?_
  show awp _ _ _ _
  by_cases e6 : pkB s (pos + 1 + 1 + 1) < 49 ∨ 57 < pkB s (pos + 1 + 1 + 1)
  · have h4 := expect_no hz5 false hp3 hs (fun h => by have := (inS_iff _ _).1 h; simp at this; omega)
    have hres : expS s pos = (0, false, pos + 1 + 1 + 1) := by unfold expS; rw [if_neg e1, if_neg hne2, if_neg hne3, if_neg e4, if_neg hne5, if_pos e6]
    rw [hres]
    refine awp_seqR (fun K hK => ?_)
    simp (maxSteps := 2000000) (disch := omega) [ints, rows, scal, wr64, wr8]
    (repeat' apply And.intro)
    all_goals (try omega)
    refine call_rule (caps := []) (h4) [0] [0] 1 rfl rfl rfl rfl (by kernel_rfl) (by simp) ?_ ?_ (by simp) rfl (by simp) ⟨.inr ⟨rfl, 0, _, _, _, _, _, rfl, rfl, (by first | rfl | simp [rdO]), rfl, (by first | rfl | simp [rdO])⟩, trivial⟩ (by simp [rdO]) ?_
    · simp [scal, rows, ints, rdO]
    · simp [scal, rows, ints, rdO]
    simp (maxSteps := 2000000) (disch := omega) [ints, rows, scal, wr64, wr8, rdO]
    (repeat' first | refine hK _ ?_ | apply And.intro) <;> clear hK K <;> try first | (show chkD _ _ = true; kernel_rfl) | omega | rfl | (simp; done) | (simp; omega)
    refine awp_seq ?_
    refine awp_seqR (fun K hK => ?_)
    simp (maxSteps := 2000000) (disch := omega) [ints, rows, scal, wr64, wr8, rdO]
    (repeat' first | refine hK _ ?_ | apply And.intro) <;> clear hK K <;> try first | (show chkD _ _ = true; kernel_rfl) | omega | rfl | (simp; done) | (simp; omega)
    refine awp_cond (b := true) (p := 2) (by simp [scal] <;> omega) ?_
    refine awp_seqR (fun K hK => ?_)
    simp (maxSteps := 2000000) (disch := omega) [ints, rows, scal, wr64, wr8]
    (repeat' first | refine hK _ ?_ | apply And.intro) <;> clear hK K <;> try first | (show chkD _ _ = true; kernel_rfl) | omega | rfl | (simp; done) | (simp; omega)
    refine awp_ret ?_
    refine ⟨⟨.inr rfl, _, [(0, some 0)], (by first | rfl | (simp [ints, rows, scal, rdO]; rfl)), ?_, ?_, ?_, ?_⟩, ?_⟩
    all_goals try simp [ints, rows, scal, rdO]
  obtain ⟨hp4, h4⟩ := expect_yes hz5 false hp3 hs (c := pkB s (pos + 1 + 1 + 1)) rfl (by omega) ((inS_iff _ _).2 (by simp; omega))
  obtain ⟨dd, hdd⟩ : ∃ dd, dd = pkB s (pos + 1 + 1 + 1) := ⟨_, rfl⟩
  rw [← hdd] at h4
  refine awp_seqR (fun K hK => ?_)
  simp (maxSteps := 2000000) (disch := omega) [ints, rows, scal, wr64, wr8]
  (repeat' apply And.intro)
  all_goals (try omega)
  refine call_rule (caps := []) (h4) [0] [0] 1 rfl rfl rfl rfl (by kernel_rfl) (by simp) ?_ ?_ (by simp) rfl (by simp) ⟨.inr ⟨rfl, 0, _, _, _, _, _, rfl, rfl, (by first | rfl | simp [rdO]), rfl, (by first | rfl | simp [rdO])⟩, trivial⟩ (by simp [rdO]) ?_
  · simp [scal, rows, ints, rdO]
  · simp [scal, rows, ints, rdO]
  simp (maxSteps := 2000000) (disch := omega) [ints, rows, scal, wr64, wr8, rdO]
  (repeat' first | refine hK _ ?_ | apply And.intro) <;> clear hK K <;> try first | (show chkD _ _ = true; kernel_rfl) | omega | rfl | (simp; done) | (simp; omega)
  refine awp_seq ?_
  refine awp_seqR (fun K hK => ?_)
  simp (maxSteps := 2000000) (disch := omega) [ints, rows, scal, wr64, wr8, rdO]
  (repeat' first | refine hK _ ?_ | apply And.intro) <;> clear hK K <;> try first | (show chkD _ _ = true; kernel_rfl) | omega | rfl | (simp; done) | (simp; omega)
  refine awp_cond (b := false) (p := 2) (by simp [scal] <;> omega) ?_
  refine awp_skip ?_
  show awp _ _ _ _
  by_cases e7 : pkB s (pos + 1 + 1 + 1 + 1) = 41
  · obtain ⟨hp5, h5⟩ := expect_yes hz6 false hp4 hs e7 (by omega) ((inS_iff _ _).2 (by simp))
    have hres : expS s pos = (dd - 48, true, pos + 1 + 1 + 1 + 1 + 1) := by unfold expS; rw [if_neg e1, if_neg hne2, if_neg hne3, if_neg e4, if_neg hne5, if_neg e6, if_neg (by simpa using e7), hdd]
    rw [hres]
    refine awp_seqR (fun K hK => ?_)
    simp (maxSteps := 2000000) (disch := omega) [ints, rows, scal, wr64, wr8]
    (repeat' apply And.intro)
    all_goals (try omega)
    refine call_rule (caps := []) (h5) [0] [0] 1 rfl rfl rfl rfl (by kernel_rfl) (by simp) ?_ ?_ (by simp) rfl (by simp) ⟨.inr ⟨rfl, 0, _, _, _, _, _, rfl, rfl, (by first | rfl | simp [rdO]), rfl, (by first | rfl | simp [rdO])⟩, trivial⟩ (by simp [rdO]) ?_
    · simp [scal, rows, ints, rdO]
    · simp [scal, rows, ints, rdO]
    simp (maxSteps := 2000000) (disch := omega) [ints, rows, scal, wr64, wr8, rdO]
    (repeat' first | refine hK _ ?_ | apply And.intro) <;> clear hK K <;> try first | (show chkD _ _ = true; kernel_rfl) | omega | rfl | (simp; done) | (simp; omega)
    refine awp_seq ?_
    refine awp_seqR (fun K hK => ?_)
    simp (maxSteps := 2000000) (disch := omega) [ints, rows, scal, wr64, wr8]
    (repeat' first | refine hK _ ?_ | apply And.intro) <;> clear hK K <;> try first | (show chkD _ _ = true; kernel_rfl) | omega | rfl | (simp; done) | (simp; omega)
    refine awp_cond (b := false) (p := 2) (by simp [scal] <;> omega) ?_
    refine awp_skip ?_
    show awp _ _ _ _
    refine awp_seqR (fun K hK => ?_)
    simp (maxSteps := 2000000) (disch := omega) [ints, rows, scal, wr64, wr8]
    (repeat' first | refine hK _ ?_ | apply And.intro) <;> clear hK K <;> try first | (show chkD _ _ = true; kernel_rfl) | omega | rfl | (simp; done) | (simp; omega)
    refine awp_ret ?_
    refine ⟨⟨.inr rfl, _, [(0, some 0)], (by first | rfl | (simp [ints, rows, scal, rdO]; rfl)), ?_, ?_, ?_, ?_⟩, ?_⟩
    all_goals try simp [ints, rows, scal, rdO]
  · have h5 := expect_no hz6 false hp4 hs (fun h => by have := (inS_iff _ _).1 h; simp at this; omega)
    have hres : expS s pos = (dd - 48, false, pos + 1 + 1 + 1 + 1) := by unfold expS; rw [if_neg e1, if_neg hne2, if_neg hne3, if_neg e4, if_neg hne5, if_neg e6, if_pos e7, hdd]
    rw [hres]
    refine awp_seqR (fun K hK => ?_)
    simp (maxSteps := 2000000) (disch := omega) [ints, rows, scal, wr64, wr8]
    (repeat' apply And.intro)
    all_goals (try omega)
    refine call_rule (caps := []) (h5) [0] [0] 1 rfl rfl rfl rfl (by kernel_rfl) (by simp) ?_ ?_ (by simp) rfl (by simp) ⟨.inr ⟨rfl, 0, _, _, _, _, _, rfl, rfl, (by first | rfl | simp [rdO]), rfl, (by first | rfl | simp [rdO])⟩, trivial⟩ (by simp [rdO]) ?_
    · simp [scal, rows, ints, rdO]
    · simp [scal, rows, ints, rdO]
    simp (maxSteps := 2000000) (disch := omega) [ints, rows, scal, wr64, wr8, rdO]
    (repeat' first | refine hK _ ?_ | apply And.intro) <;> clear hK K <;> try first | (show chkD _ _ = true; kernel_rfl) | omega | rfl | (simp; done) | (simp; omega)
    refine awp_seq ?_
    refine awp_seqR (fun K hK => ?_)
    simp (maxSteps := 2000000) (disch := omega) [ints, rows, scal, wr64, wr8]
    (repeat' first | refine hK _ ?_ | apply And.intro) <;> clear hK K <;> try first | (show chkD _ _ = true; kernel_rfl) | omega | rfl | (simp; done) | (simp; omega)
    refine awp_cond (b := false) (p := 2) (by simp [scal] <;> omega) ?_
    refine awp_skip ?_
    show awp _ _ _ _
    refine awp_seqR (fun K hK => ?_)
    simp (maxSteps := 2000000) (disch := omega) [ints, rows, scal, wr64, wr8]
    (repeat' first | refine hK _ ?_ | apply And.intro) <;> clear hK K <;> try first | (show chkD _ _ = true; kernel_rfl) | omega | rfl | (simp; done) | (simp; omega)
    refine awp_ret ?_
    refine ⟨⟨.inr rfl, _, [(0, some 0)], (by first | rfl | (simp [ints, rows, scal, rdO]; rfl)), ?_, ?_, ?_, ?_⟩, ?_⟩
    all_goals try simp [ints, rows, scal, rdO]
end Go.Proofs.Ytghnmmfkckneaaa.M

namespace Go.Proofs.Ytghnmmfkckneaaa.M
open Go.RowKit
set_option linter.unusedVariables false
set_option linter.unusedSimpArgs false

theorem Wk.trans {a b c : ASt} (h : Wk a b) (k : Wk b c) : Wk a c := fun w0 V S0 gv x w hr => k w0 V S0 gv x w (h w0 V S0 gv x w hr)
/-- What a variable holds may be read in other words. -/
theorem Wk.box {σ : ASt} {id ty : Nat} {cs cs' : List AV} (h : σ.heap id = some (.box ty cs)) (hu : ups cs cs') : Wk σ { σ with heap := upd σ.heap id (some (.box ty cs')) } := by
  intro w0 V S0 gv a w hR
  obtain ⟨ob, m, hrest⟩ := hR
  refine ⟨ob, ⟨fun i u n hi => ?_, fun i o hi => ?_, m.sep, m.new, m.only⟩, hrest⟩
  · obtain ⟨o, h1, h2⟩ := m.live i u n hi
    by_cases e : i = id
    · subst e
      rw [h] at h1
      injection h1 with h1
      subst h1
      exact ⟨.box ty cs', upd_same _ _ _, by rw [h2]; simp [ups_len hu]⟩
    · exact ⟨o, by show upd σ.heap id _ i = _; rw [upd_ne _ _ e]; exact h1, h2⟩
  · have hi : upd σ.heap id (some (.box ty cs')) i = some o := hi
    by_cases e : i = id
    · subst e
      rw [upd_same] at hi
      injection hi with hi
      subst hi
      obtain ⟨h1, u, h2, b, vs, rfl, h4, h5⟩ := m.obj i _ h
      exact ⟨h1, _, by rw [h2]; simp [ups_len hu], b, vs, rfl, h4, h5.upA hu⟩
    · rw [upd_ne _ _ e] at hi
      exact m.obj i o hi
theorem heap_upd3 {α β : AObj} {x y : AObj} : upd (heapOf [(0, α), (1, β), (2, x)]) 2 (some y) = heapOf [(0, α), (1, β), (2, y)] := by
  funext k
  by_cases h : k = 2
  · subst h; rw [upd_same]; rfl
  · rw [upd_ne _ _ h]
    by_cases h0 : k = 0
    · subst h0; rfl
    · by_cases h1 : k = 1
      · subst h1; rfl
      · have h0' : ¬ 0 = k := fun e => h0 e.symm
        have h1' : ¬ 1 = k := fun e => h1 e.symm
        have h2' : ¬ 2 = k := fun e => h e.symm
        simp [heapOf, h0, h1, h, h0', h1', h2']
theorem Wk.leaf {sl : List (Nat × AV)} {α β : AObj} {o n : Int} {nx nt : Nat} {gh : List AV} : Wk (mkS sl [(0, α), (1, β), (2, .box 26 [.t 2 (.int .i64 o), .t 2 (.int .i64 n), .t 2 (.sl 0 [])])] nx nt gh) (mkS sl [(0, α), (1, β), (2, tmO (.mk o n []))] nx nt gh) := by
  have h := Wk.box (σ := mkS sl [(0, α), (1, β), (2, .box 26 [.t 2 (.int .i64 o), .t 2 (.int .i64 n), .t 2 (.sl 0 [])])] nx nt gh) (id := 2) (ty := 26) (cs' := [.t 2 (.int .i64 o), .t 2 (.int .i64 n), .t 2 (.sl 3 [])]) rfl ⟨fun _ _ h => h, fun _ _ h => h, fun _ _ h => h.nil3 3, trivial⟩
  have e : (mkS sl [(0, α), (1, β), (2, .box 26 [.t 2 (.int .i64 o), .t 2 (.int .i64 n), .t 2 (.sl 0 [])])] nx nt gh) = ⟨(mkS sl [] nx nt gh).env, heapOf [(0, α), (1, β), (2, .box 26 [.t 2 (.int .i64 o), .t 2 (.int .i64 n), .t 2 (.sl 0 [])])], nx, nt, gh⟩ := rfl
  rw [e] at h ⊢
  simp only at h
  rw [heap_upd3] at h
  exact h
/-- A term that may be any where the reading has failed. -/
def RdG (ok : Bool) (t : Tm) (res : AV) : Prop := ∃ u : Tm, (ok = true → u = t) ∧ res = tmV 2 u
set_option maxRecDepth 100000 in
set_option maxHeartbeats 16000000 in
theorem rfactor_fn (P : Nat → PR) (s : ByteArray) (q : Nat) (hq : q ≤ s.size) (hs : s.size ≤ 100000) (hne : pkB s q ≠ 32) (hb : begB (pkB s q) = true)
    (hP : q + 1 ≤ s.size → (P (q + 1)).2.2 ≤ s.size ∧ q + 1 ≤ (P (q + 1)).2.2 ∧ ((P (q + 1)).2.1 = true → pkB s (P (q + 1)).2.2 ≠ 32))
    (hT : q + 1 ≤ s.size → ∃ res, RdG (P (q + 1)).2.1 (P (q + 1)).1 res ∧ FnS Try.prog 40 [.ptr 0 0 3] [rdO s (q + 1) false] res [rdO s (P (q + 1)).2.2 (!(P (q + 1)).2.1)]) :
    ∃ res, RdG (factorP P s q).2.1 (factorP P s q).1 res ∧ FnS Try.prog 79 [.ptr 0 0 3] [rdO s q false] res [rdO s (factorP P s q).2.2 (!(factorP P s q).2.1)] := by
  have hlt : q < s.size := pkB_lt hq (b := pkB s q) (fun h0 => by rw [h0] at hb; exact absurd hb (by decide)) rfl
  have hpk := rpeek_fn s q false hq (by omega)
  rw [skipS_id hq hne] at hpk
  have hat : factorP P s q = (if (atomP P s q).2.1 = false then (.zero, false, (atomP P s q).2.2) else expsP s (s.size + 1 - skipS s (atomP P s q).2.2) (skipS s (atomP P s q).2.2) (atomP P s q).1) := rfl
  have hal := atomP_le hq (P := P) (fun h => ⟨(hP h).1, (hP h).2.1⟩)
  have hb' : ¬ begB (pkB s q) = false := by rw [hb]; simp
  rw [hat]
  clear hat
  refine fn_introE Try.func79 rfl (by simp [Try.f79]) ?_
  rw [show Try.f79.ntmps = 68 from rfl, show Try.f79.results = #[.cell 2 26] from rfl]
  refine awp_seqR (fun K hK => ?_)
  simp (maxSteps := 2000000) (disch := omega) [ints, rows, scal, wr64, wr8, rdO]
  (repeat' first | refine hK _ ?_ | apply And.intro) <;> clear hK K <;> try first | (show chkD _ _ = true; kernel_rfl) | omega | rfl | (simp; done) | (simp; omega)
  refine awp_seqR (fun K hK => ?_)
  simp (maxSteps := 2000000) (disch := omega) [ints, rows, scal, wr64, wr8, rdO]
  (repeat' apply And.intro)
  all_goals (try omega)
  refine call_rule (caps := []) (hpk) [0] [0] 1 rfl rfl rfl rfl (by kernel_rfl) (by simp) ?_ ?_ (by simp) rfl (by simp) ⟨.inr ⟨rfl, 0, _, _, _, _, _, rfl, rfl, (by first | rfl | simp [rdO]), rfl, (by first | rfl | simp [rdO])⟩, trivial⟩ (by simp [rdO]) ?_
  · simp [scal, rows, ints, rdO]
  · simp [scal, rows, ints, rdO]
  simp (maxSteps := 2000000) (disch := omega) [ints, rows, scal, wr64, wr8, rdO]
  (repeat' first | refine hK _ ?_ | apply And.intro) <;> clear hK K <;> try first | (show chkD _ _ = true; kernel_rfl) | omega | rfl | (simp; done) | (simp; omega)
  refine awp_seqR (fun K hK => ?_)
  simp (maxSteps := 2000000) (disch := omega) [ints, rows, scal, wr64, wr8, rdO]
  (repeat' first | refine hK _ ?_ | apply And.intro) <;> clear hK K <;> try first | (show chkD _ _ = true; kernel_rfl) | omega | rfl | (simp; done) | (simp; omega)
  refine awp_seqR (fun K hK => ?_)
  simp (maxSteps := 2000000) (disch := omega) [ints, rows, scal, wr64, wr8, rdO]
  (repeat' first | refine hK _ ?_ | apply And.intro) <;> clear hK K <;> try first | (show chkD _ _ = true; kernel_rfl) | omega | rfl | (simp; done) | (simp; omega)
  refine awp_weak (σ' := mkS [(0, .ptr 0 0 3), (2, .ptr 1 0 3), (3, .t 2 (.int .u8 (pkB s q))), (4, .ptr 2 0 3)] [(0, rdO s (q + 1) false), (1, zeO), (2, zeO)] 3 68 [.ptr 0 0 3]) ?_ ?_
  · refine wk_list [(0, some 0), (1, some 1), (2, some 12000001)] rfl ?_ ?_ ?_ ?_
    all_goals try simp [ints, rdO, zeO, tsTerm]
  by_cases hA : (atomP P s q).2.1 = false
  · -- the parenthesis fails
    rw [if_pos hA]
    have e49 : ¬ pkB s q = 49 := fun e => by
      unfold atomP at hA; rw [if_neg hb', if_pos e] at hA; cases hA
    have e40 : pkB s q = 40 := Classical.byContradiction fun e => by
      unfold atomP at hA; rw [if_neg hb', if_neg e49, if_neg e] at hA; cases hA
    have hres : atomP P s q = (if (P (q + 1)).2.1 = false then ((P (q + 1)).1, false, (P (q + 1)).2.2) else if pkB s (P (q + 1)).2.2 = 41 then ((P (q + 1)).1, true, (P (q + 1)).2.2 + 1) else ((P (q + 1)).1, false, (P (q + 1)).2.2)) := by
      unfold atomP; rw [if_neg hb', if_neg e49, if_pos e40]
    obtain ⟨hl1, hl2, hl3⟩ := hP hlt
    obtain ⟨res, ⟨u, hu, rfl⟩, hF⟩ := hT hlt
    rw [hres] at hA ⊢
    generalize P (q + 1) = x at hA hl1 hl2 hl3 hu hF ⊢
    obtain ⟨t, b, pe⟩ := x
    simp only at hA hl1 hl2 hl3 hu hF ⊢
    refine awp_seq ?_
    refine awp_block ?_
    refine awp_seqR (fun K hK => ?_)
    simp (maxSteps := 2000000) (disch := omega) [ints, rows, scal, wr64, wr8]
    (repeat' first | refine hK _ ?_ | apply And.intro) <;> clear hK K <;> try first | (show chkD _ _ = true; kernel_rfl) | omega | rfl | (simp; done) | (simp; omega)
    refine awp_cond (b := false) (p := 2) (by simp [scal, e49] <;> omega) ?_
    refine awp_seqR (fun K hK => ?_)
    simp (maxSteps := 2000000) (disch := omega) [ints, rows, scal, wr64, wr8]
    (repeat' first | refine hK _ ?_ | apply And.intro) <;> clear hK K <;> try first | (show chkD _ _ = true; kernel_rfl) | omega | rfl | (simp; done) | (simp; omega)
    refine awp_cond (b := true) (p := 2) (by simp [scal, e40] <;> omega) ?_
    refine awp_seqR (fun K hK => ?_)
    simp (maxSteps := 2000000) (disch := omega) [ints, rows, scal, wr64, wr8, rdO, zeO]
    (repeat' apply And.intro)
    all_goals (try omega)
    refine call_rule (caps := []) (hF) [0] [0] 1 rfl rfl rfl rfl (by kernel_rfl) (by simp) ?_ ?_ (by simp) rfl (by simp) ⟨.inr ⟨rfl, 0, _, _, _, _, _, rfl, rfl, (by first | rfl | simp [rdO]), rfl, (by first | rfl | simp [rdO])⟩, trivial⟩ (by simp [rdO]) ?_
    · simp [scal, rows, ints, rdO]
    · simp [scal, rows, ints, rdO]
    simp (maxSteps := 2000000) (disch := omega) [ints, rows, scal, wr64, wr8, rdO, zeO, tmV, tsTerm]
    (repeat' first | refine hK _ ?_ | apply And.intro) <;> clear hK K <;> try first | (show chkD _ _ = true; kernel_rfl) | omega | rfl | (simp; done) | (simp; omega)
    refine awp_seq ?_
    cases b with
    | false =>
      refine awp_seqR (fun K hK => ?_)
      simp (maxSteps := 2000000) (disch := omega) [ints, rows, scal, wr64, wr8, rdO]
      (repeat' first | refine hK _ ?_ | apply And.intro) <;> clear hK K <;> try first | (show chkD _ _ = true; kernel_rfl) | omega | rfl | (simp; done) | (simp; omega)
      refine awp_cond (b := true) (p := 2) (by simp [scal] <;> omega) ?_
      refine awp_seqR (fun K hK => ?_)
      simp (maxSteps := 2000000) (disch := omega) [ints, rows, scal, wr64, wr8, rdO, zeO, tsTerm]
      (repeat' first | refine hK _ ?_ | apply And.intro) <;> clear hK K <;> try first | (show chkD _ _ = true; kernel_rfl) | omega | rfl | (simp; done) | (simp; omega)
      refine awp_ret ?_
      refine ⟨_, ⟨u, by simp, rfl⟩, ?_⟩
      simp only [↓reduceIte]
      refine ⟨⟨.inr rfl, _, [(0, some 0)], (by first | rfl | (simp [ints, rows, scal, rdO, tsTerm, tmV]; rfl)), ?_, ?_, ?_, ?_⟩, ?_⟩
      all_goals try simp [ints, rows, scal, rdO, tsTerm, tmV]
    | true =>
      have e41 : ¬ pkB s pe = 41 := fun e => by
        rw [if_neg (by simp), if_pos e] at hA; cases hA
      have hpk2 := rpeek_fn s pe false hl1 (by omega)
      rw [skipS_id hl1 (hl3 rfl)] at hpk2
      refine awp_seqR (fun K hK => ?_)
      simp (maxSteps := 2000000) (disch := omega) [ints, rows, scal, wr64, wr8, rdO]
      (repeat' first | refine hK _ ?_ | apply And.intro) <;> clear hK K <;> try first | (show chkD _ _ = true; kernel_rfl) | omega | rfl | (simp; done) | (simp; omega)
      refine awp_cond (b := false) (p := 2) (by simp [scal] <;> omega) ?_
      refine awp_skip ?_
      show awp _ _ _ _
      refine awp_seq ?_
      refine awp_seqR (fun K hK => ?_)
      simp (maxSteps := 2000000) (disch := omega) [ints, rows, scal, wr64, wr8, rdO]
      (repeat' apply And.intro)
      all_goals (try omega)
      refine call_rule (caps := []) (hpk2) [0] [0] 1 rfl rfl rfl rfl (by kernel_rfl) (by simp) ?_ ?_ (by simp) rfl (by simp) ⟨.inr ⟨rfl, 0, _, _, _, _, _, rfl, rfl, (by first | rfl | simp [rdO]), rfl, (by first | rfl | simp [rdO])⟩, trivial⟩ (by simp [rdO]) ?_
      · simp [scal, rows, ints, rdO]
      · simp [scal, rows, ints, rdO]
      simp (maxSteps := 2000000) (disch := omega) [ints, rows, scal, wr64, wr8, rdO]
      (repeat' first | refine hK _ ?_ | apply And.intro) <;> clear hK K <;> try first | (show chkD _ _ = true; kernel_rfl) | omega | rfl | (simp; done) | (simp; omega)
      refine awp_cond (b := true) (p := 2) (by simp [scal, e41] <;> omega) ?_
      refine awp_seqR (fun K hK => ?_)
      simp (maxSteps := 2000000) (disch := omega) [ints, rows, scal, wr64, wr8, rdO]
      (repeat' first | refine hK _ ?_ | apply And.intro) <;> clear hK K <;> try first | (show chkD _ _ = true; kernel_rfl) | omega | rfl | (simp; done) | (simp; omega)
      refine awp_seqR (fun K hK => ?_)
      simp (maxSteps := 2000000) (disch := omega) [ints, rows, scal, wr64, wr8, rdO, zeO, tsTerm]
      (repeat' first | refine hK _ ?_ | apply And.intro) <;> clear hK K <;> try first | (show chkD _ _ = true; kernel_rfl) | omega | rfl | (simp; done) | (simp; omega)
      refine awp_ret ?_
      refine ⟨_, ⟨u, by simp, rfl⟩, ?_⟩
      rw [if_neg (by simp), if_neg e41]
      refine ⟨⟨.inr rfl, _, [(0, some 0)], (by first | rfl | (simp [ints, rows, scal, rdO, tsTerm, tmV]; rfl)), ?_, ?_, ?_, ?_⟩, ?_⟩
      all_goals try simp [ints, rows, scal, rdO, tsTerm, tmV]
  rw [if_neg hA]
  have hA : (atomP P s q).2.1 = true := by simpa using hA
  refine awp_seq (awp_mono (Q := fun e σ => e = Exit.normal ∧ Wk σ (mkS [(0, .ptr 0 0 3), (2, .ptr 1 0 3), (4, .ptr 2 0 3)] [(0, rdO s (atomP P s q).2.2 false), (1, zeO), (2, tmO (atomP P s q).1)] 3 68 [.ptr 0 0 3])) ?_ ?_)
  · refine awp_block ?_
    refine awp_seqR (fun K hK => ?_)
    simp (maxSteps := 2000000) (disch := omega) [ints, rows, scal, wr64, wr8]
    (repeat' first | refine hK _ ?_ | apply And.intro) <;> clear hK K <;> try first | (show chkD _ _ = true; kernel_rfl) | omega | rfl | (simp; done) | (simp; omega)
    by_cases e49 : pkB s q = 49
    · have hres : atomP P s q = (.mk 1 0 [], true, q + 1) := by unfold atomP; rw [if_neg hb', if_pos e49]
      rw [hres]
      refine awp_cond (b := true) (p := 2) (by simp [scal, e49] <;> omega) ?_
      refine awp_R (fun K hK => ?_)
      simp (maxSteps := 2000000) (disch := omega) [ints, rows, scal, wr64, wr8, rdO, zeO, tsTerm]
      (repeat' first | refine hK _ ?_ | apply And.intro) <;> clear hK K <;> try first | (show chkD _ _ = true; kernel_rfl) | omega | rfl | (simp; done) | (simp; omega)
      refine Wk.trans (b := mkS [(0, .ptr 0 0 3), (2, .ptr 1 0 3), (4, .ptr 2 0 3)] [(0, rdO s (q + 1) false), (1, zeO), (2, .box 26 [.t 2 (.int .i64 1), .t 2 (.int .i64 0), .t 2 (.sl 0 [])])] 3 68 [.ptr 0 0 3]) ?_ Wk.leaf
      refine wk_list [(0, some 0), (1, some 1), (2, some 2)] rfl ?_ ?_ ?_ ?_
      all_goals try simp [ints, rdO, zeO, tsTerm]
    refine awp_cond (b := false) (p := 2) (by simp [scal, e49] <;> omega) ?_
    refine awp_seqR (fun K hK => ?_)
    simp (maxSteps := 2000000) (disch := omega) [ints, rows, scal, wr64, wr8]
    (repeat' first | refine hK _ ?_ | apply And.intro) <;> clear hK K <;> try first | (show chkD _ _ = true; kernel_rfl) | omega | rfl | (simp; done) | (simp; omega)
    by_cases e40 : pkB s q = 40
    case neg =>
      have hvr := rvariable_fn (pkB s q)
      have hres : atomP P s q = (.mk 2 (varI (pkB s q)) [], true, q + 1) := by unfold atomP; rw [if_neg hb', if_neg e49, if_neg e40]
      rw [hres]
      refine awp_cond (b := false) (p := 2) (by simp [scal, e40] <;> omega) ?_
      refine awp_R (fun K hK => ?_)
      simp (maxSteps := 2000000) (disch := omega) [ints, rows, scal, wr64, wr8, rdO, zeO]
      (repeat' apply And.intro)
      all_goals (try omega)
      refine call_rule (caps := []) (hvr) [] [] 2 rfl rfl rfl rfl (by kernel_rfl) (by simp) ?_ trivial trivial rfl trivial trivial (by simp) ?_
      · simp [scal, rows, ints]
      simp (maxSteps := 2000000) (disch := omega) [ints, rows, scal, wr64, wr8, rdO, zeO, tsTerm]
      (repeat' first | refine hK _ ?_ | apply And.intro) <;> clear hK K <;> try first | (show chkD _ _ = true; kernel_rfl) | omega | rfl | (simp; done) | (simp; omega)
      refine Wk.trans (b := mkS [(0, .ptr 0 0 3), (2, .ptr 1 0 3), (4, .ptr 2 0 3)] [(0, rdO s (q + 1) false), (1, zeO), (2, .box 26 [.t 2 (.int .i64 2), .t 2 (.int .i64 (varI (pkB s q))), .t 2 (.sl 0 [])])] 3 68 [.ptr 0 0 3]) ?_ Wk.leaf
      refine wk_list [(0, some 0), (1, some 1), (2, some 2)] rfl ?_ ?_ ?_ ?_
      all_goals try simp [ints, rdO, zeO, tsTerm]
    have hres : atomP P s q = (if (P (q + 1)).2.1 = false then ((P (q + 1)).1, false, (P (q + 1)).2.2) else if pkB s (P (q + 1)).2.2 = 41 then ((P (q + 1)).1, true, (P (q + 1)).2.2 + 1) else ((P (q + 1)).1, false, (P (q + 1)).2.2)) := by
      unfold atomP; rw [if_neg hb', if_neg e49, if_pos e40]
    obtain ⟨hl1, hl2, hl3⟩ := hP hlt
    obtain ⟨res, ⟨u, hu, rfl⟩, hF⟩ := hT hlt
    rw [hres] at hA ⊢
    generalize P (q + 1) = x at hA hl1 hl2 hl3 hu hF ⊢
    obtain ⟨t, b, pe⟩ := x
    simp only at hA hl1 hl2 hl3 hu hF ⊢
    cases b with
    | false => rw [if_pos rfl] at hA; cases hA
    | true =>
      obtain rfl := hu rfl
      have e41 : pkB s pe = 41 := Classical.byContradiction fun e => by
        rw [if_neg (by simp), if_neg e] at hA; cases hA
      have hpk2 := rpeek_fn s pe false hl1 (by omega)
      rw [skipS_id hl1 (hl3 rfl)] at hpk2
      rw [if_neg (by simp), if_pos e41]
      refine awp_cond (b := true) (p := 2) (by simp [scal, e40] <;> omega) ?_
      refine awp_seqR (fun K hK => ?_)
      simp (maxSteps := 2000000) (disch := omega) [ints, rows, scal, wr64, wr8, rdO, zeO]
      (repeat' apply And.intro)
      all_goals (try omega)
      refine call_rule (caps := []) (hF) [0] [0] 1 rfl rfl rfl rfl (by kernel_rfl) (by simp) ?_ ?_ (by simp) rfl (by simp) ⟨.inr ⟨rfl, 0, _, _, _, _, _, rfl, rfl, (by first | rfl | simp [rdO]), rfl, (by first | rfl | simp [rdO])⟩, trivial⟩ (by simp [rdO]) ?_
      · simp [scal, rows, ints, rdO]
      · simp [scal, rows, ints, rdO]
      simp (maxSteps := 2000000) (disch := omega) [ints, rows, scal, wr64, wr8, rdO, zeO, tmV, tsTerm]
      (repeat' first | refine hK _ ?_ | apply And.intro) <;> clear hK K <;> try first | (show chkD _ _ = true; kernel_rfl) | omega | rfl | (simp; done) | (simp; omega)
      refine awp_seq ?_
      refine awp_seqR (fun K hK => ?_)
      simp (maxSteps := 2000000) (disch := omega) [ints, rows, scal, wr64, wr8, rdO]
      (repeat' first | refine hK _ ?_ | apply And.intro) <;> clear hK K <;> try first | (show chkD _ _ = true; kernel_rfl) | omega | rfl | (simp; done) | (simp; omega)
      refine awp_cond (b := false) (p := 2) (by simp [scal] <;> omega) ?_
      refine awp_skip ?_
      show awp _ _ _ _
      refine awp_seq ?_
      refine awp_seqR (fun K hK => ?_)
      simp (maxSteps := 2000000) (disch := omega) [ints, rows, scal, wr64, wr8, rdO]
      (repeat' apply And.intro)
      all_goals (try omega)
      refine call_rule (caps := []) (hpk2) [0] [0] 1 rfl rfl rfl rfl (by kernel_rfl) (by simp) ?_ ?_ (by simp) rfl (by simp) ⟨.inr ⟨rfl, 0, _, _, _, _, _, rfl, rfl, (by first | rfl | simp [rdO]), rfl, (by first | rfl | simp [rdO])⟩, trivial⟩ (by simp [rdO]) ?_
      · simp [scal, rows, ints, rdO]
      · simp [scal, rows, ints, rdO]
      simp (maxSteps := 2000000) (disch := omega) [ints, rows, scal, wr64, wr8, rdO]
      (repeat' first | refine hK _ ?_ | apply And.intro) <;> clear hK K <;> try first | (show chkD _ _ = true; kernel_rfl) | omega | rfl | (simp; done) | (simp; omega)
      refine awp_cond (b := false) (p := 2) (by simp [scal, e41] <;> omega) ?_
      refine awp_skip ?_
      show awp _ _ _ _
      refine awp_R (fun K hK => ?_)
      simp (maxSteps := 2000000) (disch := omega) [ints, rows, scal, wr64, wr8, rdO]
      (repeat' first | refine hK _ ?_ | apply And.intro) <;> clear hK K <;> try first | (show chkD _ _ = true; kernel_rfl) | omega | rfl | (simp; done) | (simp; omega)
      refine wk_list [(0, some 0), (1, some 1), (2, some 2)] rfl ?_ ?_ ?_ ?_
      all_goals try simp [ints, rdO, zeO, tmO, tsTerm]
  rintro e σ ⟨rfl, hw⟩
  refine awp_weak hw ?_
  clear hw
  show awp _ _ _ _
  generalize atomP P s q = A at hal hA ⊢
  obtain ⟨v0, bA, p0⟩ := A
  simp only at hal hA ⊢
  refine awp_seq ?_
  refine awp_block ?_
  refine awp_loop (fun y : Nat × Tm => mkS [(0, .ptr 0 0 3), (2, .ptr 1 0 3), (4, .ptr 2 0 3)] [(0, rdO s y.1 false), (1, zeO), (2, tmO y.2)] 3 68 [.ptr 0 0 3]) (fun y => y.1 ≤ s.size ∧ expsP s (s.size + 1 - skipS s p0) (skipS s p0) v0 = expsP s (s.size + 1 - skipS s y.1) (skipS s y.1) y.2) (fun y => s.size - y.1) ?_ ?_
  · refine ⟨(p0, v0), ⟨hal.1, rfl⟩, ?_⟩
    refine wk_list [(0, some 0), (1, some 1), (2, some 2)] rfl ?_ ?_ ?_ ?_
    all_goals try simp [ints, rdO, zeO, tmO]
  rintro ⟨p, v⟩ ⟨hp, hex⟩
  simp only at hp hex
  rw [hex]
  have hpk3 := rpeek_fn s p false hp (by omega)
  have hsk := skipS_le hp
  generalize skipS s p = p1 at hpk3 hsk ⊢
  rw [show s.size + 1 - p1 = (s.size - p1) + 1 by omega, expsP_succ s (s.size - p1) p1 v]
  refine awp_seq ?_
  refine awp_seqR (fun K hK => ?_)
  simp (maxSteps := 2000000) (disch := omega) [ints, rows, scal, wr64, wr8, rdO]
  (repeat' apply And.intro)
  all_goals (try omega)
  refine call_rule (caps := []) (hpk3) [0] [0] 1 rfl rfl rfl rfl (by kernel_rfl) (by simp) ?_ ?_ (by simp) rfl (by simp) ⟨.inr ⟨rfl, 0, _, _, _, _, _, rfl, rfl, (by first | rfl | simp [rdO]), rfl, (by first | rfl | simp [rdO])⟩, trivial⟩ (by simp [rdO]) ?_
  · simp [scal, rows, ints, rdO]
  · simp [scal, rows, ints, rdO]
  simp (maxSteps := 2000000) (disch := omega) [ints, rows, scal, wr64, wr8, rdO]
  (repeat' first | refine hK _ ?_ | apply And.intro) <;> clear hK K <;> try first | (show chkD _ _ = true; kernel_rfl) | omega | rfl | (simp; done) | (simp; omega)
  by_cases e1 : pkB s p1 = 94
  case neg =>
    rw [if_neg e1]
    refine awp_cond (b := false) (p := 2) (by simp [scal, e1] <;> omega) ?_
    refine awp_exit ?_
    show awp _ _ _ _
    refine awp_seqR (fun K hK => ?_)
    simp (maxSteps := 2000000) (disch := omega) [ints, rows, scal, wr64, wr8, rdO, zeO, tmO, tsTerm]
    (repeat' first | refine hK _ ?_ | apply And.intro) <;> clear hK K <;> try first | (show chkD _ _ = true; kernel_rfl) | omega | rfl | (simp; done) | (simp; omega)
    refine awp_ret ?_
    refine ⟨_, ⟨v, fun _ => rfl, rfl⟩, ?_⟩
    refine ⟨⟨.inr rfl, _, [(0, some 0)], (by first | rfl | (simp [ints, rows, scal, rdO, tsTerm, tmV]; rfl)), ?_, ?_, ?_, ?_⟩, ?_⟩
    all_goals try simp [ints, rows, scal, rdO, tsTerm, tmV]
  have hlt1 := pkB_lt hsk.1 (by omega) e1
  have hex2 := rexponent_fn s (p1 + 1) hlt1 (by omega)
  have hel := expS_le (s := s) (pos := p1 + 1) hlt1
  have hrv := rexV_ok (s := s) (pos := p1 + 1)
  rw [if_pos e1]
  generalize expS s (p1 + 1) = x at hex2 hel hrv ⊢
  obtain ⟨n, b, pe⟩ := x
  simp only at hex2 hel hrv ⊢
  refine awp_cond (b := true) (p := 2) (by simp [scal, e1] <;> omega) ?_
  refine awp_skip ?_
  show awp _ _ _ _
  refine awp_block ?_
  refine awp_seqR (fun K hK => ?_)
  simp (maxSteps := 2000000) (disch := omega) [ints, rows, scal, wr64, wr8, rdO]
  (repeat' first | refine hK _ ?_ | apply And.intro) <;> clear hK K <;> try first | (show chkD _ _ = true; kernel_rfl) | omega | rfl | (simp; done) | (simp; omega)
  refine awp_seqR (fun K hK => ?_)
  simp (maxSteps := 2000000) (disch := omega) [ints, rows, scal, wr64, wr8, rdO]
  (repeat' apply And.intro)
  all_goals (try omega)
  refine call_rule (caps := []) (hex2) [0] [0] 1 rfl rfl rfl rfl (by kernel_rfl) (by simp) ?_ ?_ (by simp) rfl (by simp) ⟨.inr ⟨rfl, 0, _, _, _, _, _, rfl, rfl, (by first | rfl | simp [rdO]), rfl, (by first | rfl | simp [rdO])⟩, trivial⟩ (by simp [rdO]) ?_
  · simp [scal, rows, ints, rdO]
  · simp [scal, rows, ints, rdO]
  simp (maxSteps := 2000000) (disch := omega) [ints, rows, scal, wr64, wr8, rdO]
  (repeat' first | refine hK _ ?_ | apply And.intro) <;> clear hK K <;> try first | (show chkD _ _ = true; kernel_rfl) | omega | rfl | (simp; done) | (simp; omega)
  refine awp_seq ?_
  refine awp_seqR (fun K hK => ?_)
  simp (maxSteps := 2000000) (disch := omega) [ints, rows, scal, wr64, wr8, rdO]
  (repeat' first | refine hK _ ?_ | apply And.intro) <;> clear hK K <;> try first | (show chkD _ _ = true; kernel_rfl) | omega | rfl | (simp; done) | (simp; omega)
  cases b with
  | false =>
    refine awp_cond (b := true) (p := 2) (by simp [scal] <;> omega) ?_
    refine awp_seqR (fun K hK => ?_)
    simp (maxSteps := 2000000) (disch := omega) [ints, rows, scal, wr64, wr8, rdO, zeO, tmO, tsTerm]
    (repeat' first | refine hK _ ?_ | apply And.intro) <;> clear hK K <;> try first | (show chkD _ _ = true; kernel_rfl) | omega | rfl | (simp; done) | (simp; omega)
    refine awp_ret ?_
    simp only [↓reduceIte]
    refine ⟨_, ⟨v, by simp, rfl⟩, ?_⟩
    refine ⟨⟨.inr rfl, _, [(0, some 0)], (by first | rfl | (simp [ints, rows, scal, rdO, tsTerm, tmV]; rfl)), ?_, ?_, ?_, ?_⟩, ?_⟩
    all_goals try simp [ints, rows, scal, rdO, tsTerm, tmV]
  | true =>
    rw [hrv rfl]
    simp only [Bool.true_eq_false, ↓reduceIte]
    refine awp_cond (b := false) (p := 2) (by simp [scal] <;> omega) ?_
    refine awp_skip ?_
    show awp _ _ _ _
    refine awp_R (fun K hK => ?_)
    simp (maxSteps := 2000000) (disch := omega) [ints, rows, scal, wr64, wr8, rdO, zeO, tmO, tsTerm]
    (repeat' first | refine hK _ ?_ | apply And.intro) <;> clear hK K <;> try first | (show chkD _ _ = true; kernel_rfl) | omega | rfl | (simp; done) | (simp; omega)
    have hs5 := skipS_le hel.1
    refine ⟨(pe, .mk 4 n [v]), ⟨hel.1, expsP_fuel (s.size - p1) (s.size + 1 - skipS s pe) (skipS s pe) (.mk 4 n [v]) hs5.1 (by omega) (by omega)⟩, by simp only; omega, ?_⟩
    refine wk_list [(0, some 0), (1, some 1), (2, some 2)] rfl ?_ ?_ ?_ ?_
    all_goals try simp [ints, rdO, zeO, tmO, tsTerm, Tm.op, Tm.n, Tm.args, cellsL, Tm.cells_eq]
end Go.Proofs.Ytghnmmfkckneaaa.M

namespace Go.Proofs.Ytghnmmfkckneaaa.M
open Go.RowKit
set_option linter.unusedVariables false
set_option linter.unusedSimpArgs false

theorem heap_upd2 {α : AObj} {x y : AObj} : upd (heapOf [(0, α), (1, x)]) 1 (some y) = heapOf [(0, α), (1, y)] := by
  funext k
  by_cases h : k = 1
  · subst h; rw [upd_same]; rfl
  · rw [upd_ne _ _ h]
    by_cases h0 : k = 0
    · subst h0; rfl
    · have h0' : ¬ 0 = k := fun e => h0 e.symm
      have h1' : ¬ 1 = k := fun e => h e.symm
      simp [heapOf, h0, h, h0', h1']
theorem Wk.leaf1 {sl : List (Nat × AV)} {α : AObj} {nx nt : Nat} {gh : List AV} : Wk (mkS sl [(0, α), (1, zeO)] nx nt gh) (mkS sl [(0, α), (1, tmO .zero)] nx nt gh) := by
  have h := Wk.box (σ := mkS sl [(0, α), (1, zeO)] nx nt gh) (id := 1) (ty := 26) (cs' := [.t 2 (.int .i64 0), .t 2 (.int .i64 0), .t 2 (.sl 3 [])]) rfl ⟨fun _ _ h => h, fun _ _ h => h, fun _ _ h => h.nil3 3, trivial⟩
  have e : (mkS sl [(0, α), (1, zeO)] nx nt gh) = ⟨(mkS sl [] nx nt gh).env, heapOf [(0, α), (1, zeO)], nx, nt, gh⟩ := rfl
  rw [e] at h ⊢
  simp only at h
  rw [heap_upd2] at h
  exact h
set_option maxRecDepth 100000 in
set_option maxHeartbeats 16000000 in
theorem rterm_fn' (P : Nat → PR) (s : ByteArray) (pos : Nat) (hp : pos ≤ s.size) (hs : s.size ≤ 100000) (hP : PGood P s (pos + 1))
    (hF : ∀ q, pos ≤ q → q ≤ s.size → pkB s q ≠ 32 → begB (pkB s q) = true → ∃ res, RdG (factorP P s q).2.1 (factorP P s q).1 res ∧ FnS Try.prog 79 [.ptr 0 0 3] [rdO s q false] res [rdO s (factorP P s q).2.2 (!(factorP P s q).2.1)]) :
    ∃ res, RdG (factsP P s (s.size + 2 - skipS s pos) (skipS s pos) []).2.1 (factsP P s (s.size + 2 - skipS s pos) (skipS s pos) []).1 res ∧ FnS Try.prog 40 [.ptr 0 0 3] [rdO s pos false] res [rdO s (factsP P s (s.size + 2 - skipS s pos) (skipS s pos) []).2.2 (!(factsP P s (s.size + 2 - skipS s pos) (skipS s pos) []).2.1)] := by
  refine fn_introE Try.func40 rfl (by simp [Try.f40]) ?_
  rw [show Try.f40.ntmps = 40 from rfl, show Try.f40.results = #[.cell 2 26] from rfl]
  refine awp_seqR (fun K hK => ?_)
  simp (maxSteps := 2000000) (disch := omega) [ints, rows, scal, wr64, wr8, rdO]
  (repeat' first | refine hK _ ?_ | apply And.intro) <;> clear hK K <;> try first | (show chkD _ _ = true; kernel_rfl) | omega | rfl | (simp; done) | (simp; omega)
  refine awp_seqR (fun K hK => ?_)
  simp (maxSteps := 2000000) (disch := omega) [ints, rows, scal, wr64, wr8, rdO]
  (repeat' first | refine hK _ ?_ | apply And.intro) <;> clear hK K <;> try first | (show chkD _ _ = true; kernel_rfl) | omega | rfl | (simp; done) | (simp; omega)
  refine awp_seq ?_
  refine awp_block ?_
  refine awp_loop (fun y : Nat × List Tm => mkS [(0, .ptr 0 0 3), (2, .ptr 1 0 3), (3, .own 2 (y.2.length * 3))] [(0, rdO s y.1 false), (1, zeO), (2, fsO y.2)] 3 40 [.ptr 0 0 3]) (fun y => pos ≤ y.1 ∧ y.1 ≤ s.size ∧ y.2.length ≤ y.1 ∧ factsP P s (s.size + 2 - skipS s pos) (skipS s pos) [] = factsP P s (s.size + 2 - skipS s y.1) (skipS s y.1) y.2) (fun y => s.size - y.1) ?_ ?_
  · refine ⟨(pos, []), ⟨Nat.le_refl _, hp, by simp, rfl⟩, ?_⟩
    refine wk_list [(0, some 0), (1, some 1), (2, none)] rfl ?_ ?_ ?_ ?_
    all_goals try simp [ints, rdO, zeO, fsO, cellsL, tsTerm]
  rintro ⟨q0, acc⟩ ⟨hq0, hq, hacc, hex⟩
  simp only at hq0 hq hacc hex
  rw [hex]
  have hpk := rpeek_fn s q0 false hq (by omega)
  have hpq := skipS_pk hq
  obtain ⟨hsk1, hsk2⟩ := skipS_le hq
  generalize skipS s q0 = q at hpk hpq hsk1 hsk2 ⊢
  have hbg := rbegins_fn (pkB_rng s q).1 (pkB_rng s q).2
  have hf1 := factsP_succ P s (s.size - q + 1) q acc
  rw [show s.size + 2 - q = (s.size - q + 1) + 1 by omega]
  refine awp_block ?_
  refine awp_seqR (fun K hK => ?_)
  simp (maxSteps := 2000000) (disch := omega) [ints, rows, scal, wr64, wr8, rdO]
  (repeat' apply And.intro)
  all_goals (try omega)
  refine call_rule (caps := []) (hpk) [0] [0] 1 rfl rfl rfl rfl (by kernel_rfl) (by simp) ?_ ?_ (by simp) rfl (by simp) ⟨.inr ⟨rfl, 0, _, _, _, _, _, rfl, rfl, (by first | rfl | simp [rdO]), rfl, (by first | rfl | simp [rdO])⟩, trivial⟩ (by simp [rdO]) ?_
  · simp [scal, rows, ints, rdO]
  · simp [scal, rows, ints, rdO]
  simp (maxSteps := 2000000) (disch := omega) [ints, rows, scal, wr64, wr8, rdO]
  (repeat' first | refine hK _ ?_ | apply And.intro) <;> clear hK K <;> try first | (show chkD _ _ = true; kernel_rfl) | omega | rfl | (simp; done) | (simp; omega)
  refine awp_seq ?_
  refine awp_seqR (fun K hK => ?_)
  simp (maxSteps := 2000000) (disch := omega) [ints, rows, scal, wr64, wr8]
  (repeat' apply And.intro)
  all_goals (try omega)
  refine call_rule (caps := []) (hbg) [] [] 2 rfl rfl rfl rfl (by kernel_rfl) (by simp) ?_ trivial trivial rfl trivial trivial (by simp) ?_
  · simp [scal, rows, ints]
  simp (maxSteps := 2000000) (disch := omega) [ints, rows, scal, wr64, wr8]
  (repeat' first | refine hK _ ?_ | apply And.intro) <;> clear hK K <;> try first | (show chkD _ _ = true; kernel_rfl) | omega | rfl | (simp; done) | (simp; omega)
  by_cases e1 : begB (pkB s q) = true
  case neg =>
    have e1 : begB (pkB s q) = false := by simpa using e1
    refine awp_cond (b := true) (p := 2) (by simp [scal, e1] <;> omega) ?_
    by_cases e0 : acc.length = 0
    · obtain rfl : acc = [] := List.length_eq_zero_iff.1 e0
      have hfa : factorP P s q = (.zero, false, q) := by
        have : atomP P s q = (.zero, false, q) := by unfold atomP; rw [if_pos e1]
        unfold factorP
        rw [this, if_pos rfl]
      rw [if_pos (.inl rfl), hfa, if_pos rfl] at hf1
      rw [hf1]
      refine awp_seqR (fun K hK => ?_)
      simp (maxSteps := 2000000) (disch := omega) [ints, rows, scal, wr64, wr8, rdO, fsO]
      (repeat' first | refine hK _ ?_ | apply And.intro) <;> clear hK K <;> try first | (show chkD _ _ = true; kernel_rfl) | omega | rfl | (simp; done) | (simp; omega)
      refine awp_exit ?_
      show awp _ _ _ _
      refine awp_seq ?_
      refine awp_seqR (fun K hK => ?_)
      simp (maxSteps := 2000000) (disch := omega) [ints, rows, scal, wr64, wr8, fsO]
      (repeat' first | refine hK _ ?_ | apply And.intro) <;> clear hK K <;> try first | (show chkD _ _ = true; kernel_rfl) | omega | rfl | (simp; done) | (simp; omega)
      refine awp_cond (b := false) (p := 2) (by simp [scal] <;> omega) ?_
      refine awp_skip ?_
      show awp _ _ _ _
      refine awp_seqR (fun K hK => ?_)
      simp (maxSteps := 2000000) (disch := omega) [ints, rows, scal, wr64, wr8, rdO, zeO, fsO, tsTerm]
      (repeat' first | refine hK _ ?_ | apply And.intro) <;> clear hK K <;> try first | (show chkD _ _ = true; kernel_rfl) | omega | rfl | (simp; done) | (simp; omega)
      refine awp_ret ?_
      refine ⟨_, ⟨.mk 3 0 [], by simp, rfl⟩, ?_⟩
      refine ⟨⟨.inr rfl, _, [(0, some 0)], (by first | rfl | (simp [ints, rows, scal, rdO, tsTerm, tmV, fsO, cellsL, Tm.op, Tm.n, Tm.args]; rfl)), ?_, ?_, ?_, ?_⟩, ?_⟩
      all_goals try simp [ints, rows, scal, rdO, tsTerm, tmV, fsO, cellsL, Tm.op, Tm.n, Tm.args]
    · rw [if_neg (by rw [e1]; simp; exact fun h => e0 (by rw [h]; rfl))] at hf1
      rw [hf1]
      have e0b : ((acc.length : Int) == 0) = false := by simp; exact fun h => e0 (by rw [h]; rfl)
      have e0c : ¬ acc = [] := fun h => e0 (by rw [h]; rfl)
      refine awp_seqR (fun K hK => ?_)
      simp (maxSteps := 2000000) (disch := omega) [ints, rows, scal, wr64, wr8, rdO, fsO, e0, e0b, e0c]
      (repeat' first | refine hK _ ?_ | apply And.intro) <;> clear hK K <;> try first | (show chkD _ _ = true; kernel_rfl) | omega | rfl | (simp; done) | (simp; omega)
      refine awp_exit ?_
      show awp _ _ _ _
      refine awp_seq ?_
      by_cases e2 : acc.length = 1
      · obtain ⟨a, rfl⟩ : ∃ a, acc = [a] := by
          match acc, e2 with
          | [a], _ => exact ⟨a, rfl⟩
        refine awp_seqR (fun K hK => ?_)
        simp (maxSteps := 2000000) (disch := omega) [ints, rows, scal, wr64, wr8, rdO, zeO, fsO]
        (repeat' first | refine hK _ ?_ | apply And.intro) <;> clear hK K <;> try first | (show chkD _ _ = true; kernel_rfl) | omega | rfl | (simp; done) | (simp; omega)
        refine awp_cond (b := true) (p := 2) (by simp [scal] <;> omega) ?_
        refine awp_seqR (fun K hK => ?_)
        simp (maxSteps := 2000000) (disch := omega) [ints, rows, scal, wr64, wr8, rdO, zeO, fsO, cellsL, Tm.cells_eq, tsTerm]
        (repeat' first | refine hK _ ?_ | apply And.intro) <;> clear hK K <;> try first | (show chkD _ _ = true; kernel_rfl) | omega | rfl | (simp; done) | (simp; omega)
        refine awp_ret ?_
        refine ⟨_, ⟨a, fun _ => rfl, rfl⟩, ?_⟩
        refine ⟨⟨.inr rfl, _, [(0, some 0)], (by first | rfl | (simp [ints, rows, scal, rdO, zeO, fsO, tsTerm, tmV]; rfl)), ?_, ?_, ?_, ?_⟩, ?_⟩
        all_goals try simp [ints, rows, scal, rdO, zeO, fsO, tsTerm, tmV]
      · have e2' : ((acc.length : Int) == 1) = false := by simp; omega
        refine awp_seqR (fun K hK => ?_)
        simp (maxSteps := 2000000) (disch := omega) [ints, rows, scal, wr64, wr8, rdO, zeO, fsO, e2, e2']
        (repeat' first | refine hK _ ?_ | apply And.intro) <;> clear hK K <;> try first | (show chkD _ _ = true; kernel_rfl) | omega | rfl | (simp; done) | (simp; omega)
        refine awp_cond (b := false) (p := 2) (by simp [scal] <;> omega) ?_
        refine awp_skip ?_
        show awp _ _ _ _
        refine awp_seqR (fun K hK => ?_)
        simp (maxSteps := 2000000) (disch := omega) [ints, rows, scal, wr64, wr8, rdO, zeO, fsO, tsTerm]
        (repeat' first | refine hK _ ?_ | apply And.intro) <;> clear hK K <;> try first | (show chkD _ _ = true; kernel_rfl) | omega | rfl | (simp; done) | (simp; omega)
        refine awp_ret ?_
        refine ⟨_, ⟨.mk 3 0 acc, fun _ => by simp only; rw [if_neg e2], rfl⟩, ?_⟩
        refine ⟨⟨.inr rfl, _, [(0, some 0)], (by first | rfl | (simp [ints, rows, scal, rdO, zeO, fsO, tsTerm, tmV, Tm.op, Tm.n, Tm.args]; rfl)), ?_, ?_, ?_, ?_⟩, ?_⟩
        all_goals try simp [ints, rows, scal, rdO, zeO, fsO, tsTerm, tmV, Tm.op, Tm.n, Tm.args]
  rw [if_pos (.inr e1)] at hf1
  rw [hf1]
  obtain ⟨res, ⟨u, hu, rfl⟩, h4⟩ := hF q (by omega) hsk1 hpq e1
  obtain ⟨hl1, hl2, hl3⟩ := factorP_le hsk1 (P := P) (fun h => hP (q + 1) (by omega) h)
  clear hf1
  generalize factorP P s q = x at h4 hl1 hl2 hl3 hu ⊢
  obtain ⟨t, b, pe⟩ := x
  simp only at h4 hl1 hl2 hl3 hu ⊢
  refine awp_cond (b := false) (p := 2) (by simp [scal, e1] <;> omega) ?_
  refine awp_skip ?_
  show awp _ _ _ _
  refine awp_seqR (fun K hK => ?_)
  simp (maxSteps := 2000000) (disch := omega) [ints, rows, scal, wr64, wr8, rdO, fsO]
  (repeat' apply And.intro)
  all_goals (try omega)
  refine call_rule (caps := []) (h4) [0] [0] 1 rfl rfl rfl rfl (by kernel_rfl) (by simp) ?_ ?_ (by simp) rfl (by simp) ⟨.inr ⟨rfl, 0, _, _, _, _, _, rfl, rfl, (by first | rfl | simp [rdO]), rfl, (by first | rfl | simp [rdO])⟩, trivial⟩ (by simp [rdO]) ?_
  · simp [scal, rows, ints, rdO]
  · simp [scal, rows, ints, rdO]
  simp (maxSteps := 2000000) (disch := omega) [ints, rows, scal, wr64, wr8, rdO, fsO, tmV, tsTerm]
  (repeat' first | refine hK _ ?_ | apply And.intro) <;> clear hK K <;> try first | (show chkD _ _ = true; kernel_rfl) | omega | rfl | (simp; done) | (simp; omega)
  refine awp_seqR (fun K hK => ?_)
  simp (maxSteps := 2000000) (disch := omega) [ints, rows, scal, wr64, wr8, rdO]
  (repeat' first | refine hK _ ?_ | apply And.intro) <;> clear hK K <;> try first | (show chkD _ _ = true; kernel_rfl) | omega | rfl | (simp; done) | (simp; omega)
  cases b with
  | false =>
    refine awp_cond (b := true) (p := 2) (by simp [scal] <;> omega) ?_
    refine awp_seqR (fun K hK => ?_)
    simp (maxSteps := 2000000) (disch := omega) [ints, rows, scal, wr64, wr8, rdO, zeO, fsO, tsTerm]
    (repeat' first | refine hK _ ?_ | apply And.intro) <;> clear hK K <;> try first | (show chkD _ _ = true; kernel_rfl) | omega | rfl | (simp; done) | (simp; omega)
    refine awp_weak (Wk.trans (b := mkS [(2, .ptr 1 0 3)] [(0, rdO s pe true), (1, zeO)] 2 40 [.ptr 0 0 3]) ?_ Wk.leaf1) ?_
    · refine wk_list [(0, some 0), (1, some 1)] rfl ?_ ?_ ?_ ?_
      all_goals try simp [ints, rdO, zeO, tsTerm]
    refine awp_ret ?_
    simp only [↓reduceIte]
    refine ⟨_, ⟨.zero, by simp, rfl⟩, ?_⟩
    refine ⟨⟨.inr rfl, _, [(0, some 0)], (by first | rfl | (simp [ints, rows, scal, rdO, tmO, tsTerm, tmV]; rfl)), ?_, ?_, ?_, ?_⟩, ?_⟩
    all_goals try simp [ints, rows, scal, rdO, tmO, tsTerm, tmV]
  | true =>
    obtain rfl := hu rfl
    have hl4 := hl3 rfl
    have hs5 := skipS_le hl1
    refine awp_cond (b := false) (p := 2) (by simp [scal] <;> omega) ?_
    refine awp_skip ?_
    refine ⟨(pe, acc ++ [u]), ⟨by simp only; omega, hl1, by simp; omega, ?_⟩, by simp only; omega, ?_⟩
    · simp only [Bool.true_eq_false, ↓reduceIte]
      exact factsP_fuel hP (s.size - q + 1) (s.size + 2 - skipS s pe) (skipS s pe) (acc ++ [u]) (by omega) hs5.1 (by omega) (by omega)
    refine wk_list [(0, some 0), (1, some 1), (2, some 2)] rfl ?_ ?_ ?_ ?_
    all_goals try simp [ints, rdO, zeO, fsO, cellsL_app, cellsL, Tm.cells_eq]
    all_goals (try omega)
theorem rterm_fn (s : ByteArray) (hs : s.size ≤ 100000) : ∀ f pos, pos ≤ s.size → s.size - pos < f → ∃ res, RdG (termP s f pos).2.1 (termP s f pos).1 res ∧ FnS Try.prog 40 [.ptr 0 0 3] [rdO s pos false] res [rdO s (termP s f pos).2.2 (!(termP s f pos).2.1)]
  | 0, pos, hp, hf => by omega
  | f + 1, pos, hp, hf => by
    have hP : PGood (termP s f) s (pos + 1) := fun q _ hq => termP_le f q hq
    exact rterm_fn' (termP s f) s pos hp hs hP (fun q h1 h2 h3 h4 => rfactor_fn (termP s f) s q h2 hs h3 h4
      (fun h5 => ⟨(termP_le f (q + 1) h5).1, (termP_le f (q + 1) h5).2, fun h6 => termP_pk h5 h6⟩)
      (fun h5 => rterm_fn s hs f (q + 1) h5 (by omega)))
end Go.Proofs.Ytghnmmfkckneaaa.M

namespace Go.Proofs.Ytghnmmfkckneaaa.M
open Go.RowKit
set_option linter.unusedVariables false
set_option linter.unusedSimpArgs false

set_option maxRecDepth 100000 in
set_option maxHeartbeats 8000000 in
theorem rparse_fn' (s : ByteArray) (hs : s.size ≤ 100000) : FnA Try.prog 10 [.t 2 (.str s)] (parR (parP s)) := by
  obtain ⟨res, ⟨u, hu, rfl⟩, h1⟩ := rterm_fn s hs (s.size + 1) 0 (by omega) (by omega)
  have hle := (termP_le (s.size + 1) 0 (s := s) (by omega)).1
  have hpk := termP_pk (s := s) (f := s.size + 1) (pos := 0) (by omega)
  unfold parP
  generalize termP s (s.size + 1) 0 = x at h1 hle hpk hu ⊢
  obtain ⟨t, b, pe⟩ := x
  simp only at h1 hle hpk hu ⊢
  refine fn_intro Try.func10 rfl (by simp [Try.f10]) ?_
  rw [show Try.f10.ntmps = 35 from rfl, show Try.f10.results = #[.cell 2 26, .tmp 3, .tmp 4] from rfl]
  refine awp_seqR (fun K hK => ?_)
  simp (maxSteps := 2000000) (disch := omega) [ints, rows, scal, wr64, wr8]
  (repeat' first | refine hK _ ?_ | apply And.intro) <;> clear hK K <;> try first | (show chkD _ _ = true; kernel_rfl) | omega | rfl | (simp; done) | (simp; omega)
  refine awp_seq ?_
  refine awp_seqR (fun K hK => ?_)
  simp (maxSteps := 2000000) (disch := omega) [ints, rows, scal, wr64, wr8]
  (repeat' first | refine hK _ ?_ | apply And.intro) <;> clear hK K <;> try first | (show chkD _ _ = true; kernel_rfl) | omega | rfl | (simp; done) | (simp; omega)
  by_cases e0 : 1000 < s.size
  · have e0' : (1000 : Int) < (s.size : Int) := by omega
    refine awp_cond (b := true) (p := 2) (by simp [scal, e0'] <;> omega) ?_
    refine awp_seqR (fun K hK => ?_)
    simp (maxSteps := 2000000) (disch := omega) [ints, rows, scal, wr64, wr8, tsTerm]
    (repeat' first | refine hK _ ?_ | apply And.intro) <;> clear hK K <;> try first | (show chkD _ _ = true; kernel_rfl) | omega | rfl | (simp; done) | (simp; omega)
    refine awp_ret ?_
    rw [if_pos e0]
    unfold parR
    simp only [Int.reduceEq, ↓reduceIte]
    unfold tmL
    refine ⟨⟨.inr rfl, _, [], (by first | rfl | (simp [ints, rows, scal, tsTerm]; rfl)), ?_, ?_, ?_, ?_⟩, ?_⟩
    all_goals try simp [ints, rows, scal, tsTerm]
  have e0' : ¬ (1000 : Int) < (s.size : Int) := by omega
  refine awp_cond (b := false) (p := 2) (by simp [scal, e0'] <;> omega) ?_
  refine awp_skip ?_
  show awp _ _ _ _
  refine awp_seqR (fun K hK => ?_)
  simp (maxSteps := 2000000) (disch := omega) [ints, rows, scal, wr64, wr8]
  (repeat' first | refine hK _ ?_ | apply And.intro) <;> clear hK K <;> try first | (show chkD _ _ = true; kernel_rfl) | omega | rfl | (simp; done) | (simp; omega)
  refine awp_weak (σ' := mkS [(0, .t 2 (.str s)), (2, .ptr 1 0 3), (5, .ptr 0 0 3)] [(0, rdO s 0 false), (1, zeO)] 2 35 [.any]) ?_ ?_
  · refine wk_list [(0, some 8000000), (1, some 0)] rfl ?_ ?_ ?_ ?_
    all_goals try simp [ints, rdO, zeO, tsTerm]
  refine awp_seqR (fun K hK => ?_)
  simp (maxSteps := 2000000) (disch := omega) [ints, rows, scal, wr64, wr8]
  (repeat' apply And.intro)
  all_goals (try omega)
  refine call_rule (caps := []) (h1) [0] [0] 1 rfl rfl rfl rfl (by kernel_rfl) (by simp) ?_ ?_ (by simp) rfl (by simp) ⟨.inr ⟨rfl, 0, _, _, _, _, _, rfl, rfl, (by first | rfl | simp [rdO]), rfl, (by first | rfl | simp [rdO])⟩, trivial⟩ (by simp [rdO]) ?_
  · simp [scal, rows, ints, rdO]
  · simp [scal, rows, ints, rdO]
  simp (maxSteps := 2000000) (disch := omega) [ints, rows, scal, wr64, wr8, rdO, zeO, tmV, tsTerm]
  (repeat' first | refine hK _ ?_ | apply And.intro) <;> clear hK K <;> try first | (show chkD _ _ = true; kernel_rfl) | omega | rfl | (simp; done) | (simp; omega)
  refine awp_seq ?_
  cases b with
  | false =>
    refine awp_seqR (fun K hK => ?_)
    simp (maxSteps := 2000000) (disch := omega) [ints, rows, scal, wr64, wr8, rdO]
    (repeat' first | refine hK _ ?_ | apply And.intro) <;> clear hK K <;> try first | (show chkD _ _ = true; kernel_rfl) | omega | rfl | (simp; done) | (simp; omega)
    refine awp_cond (b := false) (p := 2) (by simp [scal] <;> omega) ?_
    refine awp_skip ?_
    show awp _ _ _ _
    refine awp_seq ?_
    refine awp_seqR (fun K hK => ?_)
    simp (maxSteps := 2000000) (disch := omega) [ints, rows, scal, wr64, wr8, rdO]
    (repeat' first | refine hK _ ?_ | apply And.intro) <;> clear hK K <;> try first | (show chkD _ _ = true; kernel_rfl) | omega | rfl | (simp; done) | (simp; omega)
    refine awp_cond (b := true) (p := 2) (by simp [scal] <;> omega) ?_
    refine awp_seqD (by kernel_rfl) (fun K hK => ?_)
    simp (maxSteps := 2000000) (disch := omega) [ints, rows, scal, wr64, wr8, rdO, zeO, tsTerm]
    (repeat' first | refine hK _ ?_ | apply And.intro) <;> clear hK K <;> try first | (show chkD _ _ = true; kernel_rfl) | omega | rfl | (simp; done) | (simp; omega)
    refine awp_ret ?_
    rw [if_neg e0, if_pos (.inl rfl)]
    unfold parR
    simp only [Int.reduceEq, ↓reduceIte]
    unfold tmL
    refine ⟨⟨.inr rfl, _, [], (by first | rfl | (simp [ints, rows, scal, tsTerm, zeO, rdO]; rfl)), ?_, ?_, ?_, ?_⟩, ?_⟩
    all_goals try simp [ints, rows, scal, tsTerm, zeO, rdO]
  | true =>
    obtain rfl := hu rfl
    have hpe := rpeek_fn s pe false hle (by omega)
    rw [skipS_id hle (hpk rfl)] at hpe
    refine awp_seqR (fun K hK => ?_)
    simp (maxSteps := 2000000) (disch := omega) [ints, rows, scal, wr64, wr8, rdO]
    (repeat' first | refine hK _ ?_ | apply And.intro) <;> clear hK K <;> try first | (show chkD _ _ = true; kernel_rfl) | omega | rfl | (simp; done) | (simp; omega)
    refine awp_cond (b := true) (p := 2) (by simp [scal] <;> omega) ?_
    refine awp_R (fun K hK => ?_)
    simp (maxSteps := 2000000) (disch := omega) [ints, rows, scal, wr64, wr8, rdO]
    (repeat' apply And.intro)
    all_goals (try omega)
    refine call_rule (caps := []) (hpe) [0] [0] 1 rfl rfl rfl rfl (by kernel_rfl) (by simp) ?_ ?_ (by simp) rfl (by simp) ⟨.inr ⟨rfl, 0, _, _, _, _, _, rfl, rfl, (by first | rfl | simp [rdO]), rfl, (by first | rfl | simp [rdO])⟩, trivial⟩ (by simp [rdO]) ?_
    · simp [scal, rows, ints, rdO]
    · simp [scal, rows, ints, rdO]
    simp (maxSteps := 2000000) (disch := omega) [ints, rows, scal, wr64, wr8, rdO]
    (repeat' first | refine hK _ ?_ | apply And.intro) <;> clear hK K <;> try first | (show chkD _ _ = true; kernel_rfl) | omega | rfl | (simp; done) | (simp; omega)
    show awp _ _ _ _
    refine awp_seq ?_
    by_cases e1 : pe < s.size
    · have e1' : (pe : Int) < (s.size : Int) := by omega
      refine awp_seqR (fun K hK => ?_)
      simp (maxSteps := 2000000) (disch := omega) [ints, rows, scal, wr64, wr8, rdO, e1']
      (repeat' first | refine hK _ ?_ | apply And.intro) <;> clear hK K <;> try first | (show chkD _ _ = true; kernel_rfl) | omega | rfl | (simp; done) | (simp; omega)
      refine awp_cond (b := true) (p := 2) (by simp [scal] <;> omega) ?_
      refine awp_seqD (by kernel_rfl) (fun K hK => ?_)
      simp (maxSteps := 2000000) (disch := omega) [ints, rows, scal, wr64, wr8, rdO, zeO, tsTerm]
      (repeat' first | refine hK _ ?_ | apply And.intro) <;> clear hK K <;> try first | (show chkD _ _ = true; kernel_rfl) | omega | rfl | (simp; done) | (simp; omega)
      refine awp_ret ?_
      rw [if_neg e0, if_pos (.inr e1)]
      unfold parR
      simp only [Int.reduceEq, ↓reduceIte]
      unfold tmL
      refine ⟨⟨.inr rfl, _, [], (by first | rfl | (simp [ints, rows, scal, tsTerm, zeO, rdO]; rfl)), ?_, ?_, ?_, ?_⟩, ?_⟩
      all_goals try simp [ints, rows, scal, tsTerm, zeO, rdO]
    obtain rfl : pe = s.size := by omega
    have hv := rValidate_fn u
    have hvt : vTm u = if u.val = true then 0 else 21 := rfl
    refine awp_seqR (fun K hK => ?_)
    simp (maxSteps := 2000000) (disch := omega) [ints, rows, scal, wr64, wr8, rdO]
    (repeat' first | refine hK _ ?_ | apply And.intro) <;> clear hK K <;> try first | (show chkD _ _ = true; kernel_rfl) | omega | rfl | (simp; done) | (simp; omega)
    refine awp_cond (b := false) (p := 2) (by simp [scal] <;> omega) ?_
    refine awp_skip ?_
    show awp _ _ _ _
    refine awp_seq ?_
    refine awp_seqR (fun K hK => ?_)
    simp (maxSteps := 2000000) (disch := omega) [ints, rows, scal, wr64, wr8, rdO, zeO, tsTerm]
    (repeat' apply And.intro)
    all_goals (try omega)
    refine call_rule (caps := []) (hv) [] [] 2 rfl rfl rfl rfl (by kernel_rfl) (by simp) ?_ trivial trivial rfl trivial trivial (by simp) ?_
    · simp [scal, rows, ints, tmV, rdO, zeO]
    simp (maxSteps := 2000000) (disch := omega) [ints, rows, scal, wr64, wr8, rdO, zeO]
    (repeat' first | refine hK _ ?_ | apply And.intro) <;> clear hK K <;> try first | (show chkD _ _ = true; kernel_rfl) | omega | rfl | (simp; done) | (simp; omega)
    rw [if_neg e0, if_neg (by simp)]
    by_cases e2 : u.val = true
    · rw [if_pos e2] at hvt
      rw [if_pos e2]
      refine awp_cond (b := false) (p := 2) (by simp [scal, hvt] <;> omega) ?_
      refine awp_skip ?_
      show awp _ _ _ _
      refine awp_seqR (fun K hK => ?_)
      simp (maxSteps := 2000000) (disch := omega) [ints, rows, scal, wr64, wr8, rdO, zeO, tsTerm]
      (repeat' first | refine hK _ ?_ | apply And.intro) <;> clear hK K <;> try first | (show chkD _ _ = true; kernel_rfl) | omega | rfl | (simp; done) | (simp; omega)
      refine awp_ret ?_
      unfold parR
      simp only [↓reduceIte]
      unfold tmV
      refine ⟨⟨.inr rfl, _, [], (by first | rfl | (simp [ints, rows, scal, tsTerm, zeO, rdO]; rfl)), ?_, ?_, ?_, ?_⟩, ?_⟩
      all_goals try simp [ints, rows, scal, tsTerm, zeO, rdO]
    · rw [if_neg e2] at hvt
      rw [if_neg e2]
      refine awp_cond (b := true) (p := 2) (by simp [scal, hvt] <;> omega) ?_
      refine awp_seqR (fun K hK => ?_)
      simp (maxSteps := 2000000) (disch := omega) [ints, rows, scal, wr64, wr8, rdO, zeO, tsTerm]
      (repeat' first | refine hK _ ?_ | apply And.intro) <;> clear hK K <;> try first | (show chkD _ _ = true; kernel_rfl) | omega | rfl | (simp; done) | (simp; omega)
      refine awp_ret ?_
      unfold parR
      simp only [Int.reduceEq, ↓reduceIte]
      unfold tmL
      refine ⟨⟨.inr rfl, _, [], (by first | rfl | (simp [ints, rows, scal, tsTerm, zeO, rdO]; rfl)), ?_, ?_, ?_, ?_⟩, ?_⟩
      all_goals try simp [ints, rows, scal, tsTerm, zeO, rdO]
theorem rparse_fn (s : ByteArray) (hs : s.size ≤ 100000) : FnA Try.prog 10 [.t 2 (.str s)] (parV (parP s)) :=
  FnS.res' (rparse_fn' s hs) fun E v h => h.upT ⟨fun E v h => by
    by_cases e : (parP s).2.2 = 0
    · rw [if_pos e] at h; exact h
    · rw [if_neg e] at h; rw [parP_err e]; exact h.zeT, fun _ _ h => h, fun _ _ h => h, trivial⟩
set_option maxRecDepth 100000 in
set_option maxHeartbeats 8000000 in
theorem rparseId_fn' (s : ByteArray) (hs : s.size ≤ 100000) : FnA Try.prog 12 [.t 2 (.str s)] (pidR (parI s)) := by
  obtain ⟨res, ⟨u, hu, rfl⟩, h1⟩ := rterm_fn s hs (s.size + 1) 0 (by omega) (by omega)
  have hle := (termP_le (s.size + 1) 0 (s := s) (by omega)).1
  have hpk := termP_pk (s := s) (f := s.size + 1) (pos := 0) (by omega)
  have h2 : ∀ p, p ≤ s.size → (termP s (s.size + 1) p).2.2 ≤ s.size ∧ ((termP s (s.size + 1) p).2.1 = true → pkB s (termP s (s.size + 1) p).2.2 ≠ 32) ∧ ∃ res, RdG (termP s (s.size + 1) p).2.1 (termP s (s.size + 1) p).1 res ∧ FnS Try.prog 40 [.ptr 0 0 3] [rdO s p false] res [rdO s (termP s (s.size + 1) p).2.2 (!(termP s (s.size + 1) p).2.1)] := fun p hp => ⟨(termP_le (s.size + 1) p hp).1, fun h => termP_pk hp h, rterm_fn s hs (s.size + 1) p hp (by omega)⟩
  unfold parI
  generalize termP s (s.size + 1) = Q at h1 hle hpk hu h2 ⊢
  generalize Q 0 = x at h1 hle hpk hu ⊢
  obtain ⟨t, b, pe⟩ := x
  simp only at h1 hle hpk hu ⊢
  refine fn_intro Try.func12 rfl (by simp [Try.f12]) ?_
  rw [show Try.f12.ntmps = 57 from rfl, show Try.f12.results = #[.cell 2 31, .tmp 3, .tmp 4] from rfl]
  refine awp_seqR (fun K hK => ?_)
  simp (maxSteps := 2000000) (disch := omega) [ints, rows, scal, wr64, wr8]
  (repeat' first | refine hK _ ?_ | apply And.intro) <;> clear hK K <;> try first | (show chkD _ _ = true; kernel_rfl) | omega | rfl | (simp; done) | (simp; omega)
  refine awp_seq ?_
  refine awp_seqR (fun K hK => ?_)
  simp (maxSteps := 2000000) (disch := omega) [ints, rows, scal, wr64, wr8]
  (repeat' first | refine hK _ ?_ | apply And.intro) <;> clear hK K <;> try first | (show chkD _ _ = true; kernel_rfl) | omega | rfl | (simp; done) | (simp; omega)
  by_cases e0 : 1000 < s.size
  · have e0' : (1000 : Int) < (s.size : Int) := by omega
    refine awp_cond (b := true) (p := 2) (by simp [scal, e0'] <;> omega) ?_
    refine awp_seqR (fun K hK => ?_)
    simp (maxSteps := 2000000) (disch := omega) [ints, rows, scal, wr64, wr8, tsIdent]
    (repeat' first | refine hK _ ?_ | apply And.intro) <;> clear hK K <;> try first | (show chkD _ _ = true; kernel_rfl) | omega | rfl | (simp; done) | (simp; omega)
    refine awp_ret ?_
    rw [if_pos e0]
    unfold pidR
    simp only [Int.reduceEq, ↓reduceIte]
    unfold idL0
    refine ⟨⟨.inr rfl, _, [], (by first | rfl | (simp [ints, rows, scal, tsIdent]; rfl)), ?_, ?_, ?_, ?_⟩, ?_⟩
    all_goals try simp [ints, rows, scal, tsIdent]
  have e0' : ¬ (1000 : Int) < (s.size : Int) := by omega
  refine awp_cond (b := false) (p := 2) (by simp [scal, e0'] <;> omega) ?_
  refine awp_skip ?_
  show awp _ _ _ _
  refine awp_seqR (fun K hK => ?_)
  simp (maxSteps := 2000000) (disch := omega) [ints, rows, scal, wr64, wr8]
  (repeat' first | refine hK _ ?_ | apply And.intro) <;> clear hK K <;> try first | (show chkD _ _ = true; kernel_rfl) | omega | rfl | (simp; done) | (simp; omega)
  refine awp_weak (σ' := mkS [(0, .t 2 (.str s)), (2, .ptr 1 0 6), (5, .ptr 0 0 3)] [(0, rdO s 0 false), (1, ziO)] 2 57 [.any]) ?_ ?_
  · refine wk_list [(0, some 8000000), (1, some 0)] rfl ?_ ?_ ?_ ?_
    all_goals try simp [ints, rdO, ziO, tsIdent]
  refine awp_seqR (fun K hK => ?_)
  simp (maxSteps := 2000000) (disch := omega) [ints, rows, scal, wr64, wr8]
  (repeat' apply And.intro)
  all_goals (try omega)
  refine call_rule (caps := []) (h1) [0] [0] 1 rfl rfl rfl rfl (by kernel_rfl) (by simp) ?_ ?_ (by simp) rfl (by simp) ⟨.inr ⟨rfl, 0, _, _, _, _, _, rfl, rfl, (by first | rfl | simp [rdO]), rfl, (by first | rfl | simp [rdO])⟩, trivial⟩ (by simp [rdO]) ?_
  · simp [scal, rows, ints, rdO]
  · simp [scal, rows, ints, rdO]
  simp (maxSteps := 2000000) (disch := omega) [ints, rows, scal, wr64, wr8, rdO, ziO, tmV, tsTerm]
  (repeat' first | refine hK _ ?_ | apply And.intro) <;> clear hK K <;> try first | (show chkD _ _ = true; kernel_rfl) | omega | rfl | (simp; done) | (simp; omega)
  refine awp_seq ?_
  by_cases e1 : b = false ∨ pkB s pe ≠ 61
  · refine awp_seq (awp_mono (Q := fun e σ => e = Exit.normal ∧ Wk σ (mkS [(2, .ptr 1 0 6), (5, .ptr 0 0 3), (20, .t 2 (.bool true))] [(0, rdO s pe (!b)), (1, ziO)] 2 57 [.any])) ?_ ?_)
    · cases b with
      | false =>
        refine awp_R (fun K hK => ?_)
        simp (maxSteps := 2000000) (disch := omega) [ints, rows, scal, wr64, wr8, rdO, ziO]
        (repeat' first | refine hK _ ?_ | apply And.intro) <;> clear hK K <;> try first | (show chkD _ _ = true; kernel_rfl) | omega | rfl | (simp; done) | (simp; omega)
        refine wk_list [(0, some 0), (1, some 1)] rfl ?_ ?_ ?_ ?_
        all_goals try simp [ints, rdO, ziO]
      | true =>
        have e2 : pkB s pe ≠ 61 := by
          rcases e1 with e1 | e1
          · cases e1
          · exact e1
        have hpe := rpeek_fn s pe false hle (by omega)
        rw [skipS_id hle (hpk rfl)] at hpe
        have e2b : (pkB s pe != 61) = true := by simpa using e2
        refine awp_R (fun K hK => ?_)
        simp (maxSteps := 2000000) (disch := omega) [ints, rows, scal, wr64, wr8, rdO, ziO]
        (repeat' apply And.intro)
        all_goals (try omega)
        refine call_rule (caps := []) (hpe) [0] [0] 1 (by simp [rdO, ziO]) rfl rfl rfl (by kernel_rfl) (by simp) ?_ ?_ (by simp) rfl (by simp) ⟨.inr ⟨rfl, 0, _, _, _, _, _, rfl, rfl, (by first | rfl | simp [rdO, ziO]), rfl, (by first | rfl | simp [rdO, ziO])⟩, trivial⟩ (by simp [rdO, ziO]) ?_
        · simp [scal, rows, ints, rdO, ziO]
        · simp [scal, rows, ints, rdO, ziO]
        simp (maxSteps := 2000000) (disch := omega) [ints, rows, scal, wr64, wr8, rdO, ziO, e2, e2b]
        (repeat' first | refine hK _ ?_ | apply And.intro) <;> clear hK K <;> try first | (show chkD _ _ = true; kernel_rfl) | omega | rfl | (simp; done) | (simp; omega)
        refine wk_list [(0, some 0), (1, some 1)] rfl ?_ ?_ ?_ ?_
        all_goals try simp [ints, rdO, ziO]
    rintro e σ ⟨rfl, hw⟩
    refine awp_weak hw ?_
    clear hw
    show awp _ _ _ _
    refine awp_cond (b := true) (p := 2) (by simp [scal] <;> omega) ?_
    refine awp_seqD (by kernel_rfl) (fun K hK => ?_)
    simp (maxSteps := 2000000) (disch := omega) [ints, rows, scal, wr64, wr8, rdO, ziO, tsIdent]
    (repeat' first | refine hK _ ?_ | apply And.intro) <;> clear hK K <;> try first | (show chkD _ _ = true; kernel_rfl) | omega | rfl | (simp; done) | (simp; omega)
    refine awp_ret ?_
    rw [if_neg e0, if_pos e1]
    unfold pidR
    simp only [Int.reduceEq, ↓reduceIte]
    unfold idL0
    refine ⟨⟨.inr rfl, _, [], (by first | rfl | (simp [ints, rows, scal, tsIdent, ziO, rdO]; rfl)), ?_, ?_, ?_, ?_⟩, ?_⟩
    all_goals try simp [ints, rows, scal, tsIdent, ziO, rdO]
  obtain ⟨rfl, e2⟩ : b = true ∧ pkB s pe = 61 := by
    cases b
    · exact absurd (.inl rfl) e1
    · exact ⟨rfl, Decidable.byContradiction fun h => e1 (.inr h)⟩
  rw [if_neg e0, if_neg e1]
  obtain rfl := hu rfl
  have hpe := rpeek_fn s pe false hle (by omega)
  rw [skipS_id hle (hpk rfl)] at hpe
  have hle1 : pe + 1 ≤ s.size := pkB_lt hle (by omega) e2
  obtain ⟨hle2, hpk2, res2, ⟨v, hv2, rfl⟩, h4⟩ := h2 (pe + 1) hle1
  clear h2 h1
  generalize Q (pe + 1) = y at h4 hle2 hpk2 hv2 ⊢
  obtain ⟨w, b, pf⟩ := y
  simp only at h4 hle2 hpk2 hv2 ⊢
  refine awp_seqR (fun K hK => ?_)
  simp (maxSteps := 2000000) (disch := omega) [ints, rows, scal, wr64, wr8, rdO, ziO]
  (repeat' apply And.intro)
  all_goals (try omega)
  refine call_rule (caps := []) (hpe) [0] [0] 1 (by simp [rdO, ziO]) rfl rfl rfl (by kernel_rfl) (by simp) ?_ ?_ (by simp) rfl (by simp) ⟨.inr ⟨rfl, 0, _, _, _, _, _, rfl, rfl, (by first | rfl | simp [rdO, ziO]), rfl, (by first | rfl | simp [rdO, ziO])⟩, trivial⟩ (by simp [rdO, ziO]) ?_
  · simp [scal, rows, ints, rdO, ziO]
  · simp [scal, rows, ints, rdO, ziO]
  simp (maxSteps := 2000000) (disch := omega) [ints, rows, scal, wr64, wr8, rdO, ziO, e2]
  (repeat' first | refine hK _ ?_ | apply And.intro) <;> clear hK K <;> try first | (show chkD _ _ = true; kernel_rfl) | omega | rfl | (simp; done) | (simp; omega)
  refine awp_cond (b := false) (p := 2) (by simp [scal, e2] <;> omega) ?_
  refine awp_skip ?_
  show awp _ _ _ _
  refine awp_seqR (fun K hK => ?_)
  simp (maxSteps := 2000000) (disch := omega) [ints, rows, scal, wr64, wr8, rdO, ziO]
  (repeat' first | refine hK _ ?_ | apply And.intro) <;> clear hK K <;> try first | (show chkD _ _ = true; kernel_rfl) | omega | rfl | (simp; done) | (simp; omega)
  refine awp_weak (σ' := mkS [(0, .t 2 (.str s)), (2, .ptr 1 0 6), (5, .ptr 0 0 3), (6, .ptr 2 0 3)] [(0, rdO s (pe + 1) false), (1, ziO), (2, tmO u)] 3 57 [.any]) ?_ ?_
  · refine wk_list [(0, some 0), (1, some 1), (2, some 1000002)] rfl ?_ ?_ ?_ ?_
    all_goals try simp [ints, rdO, ziO, tmO, tsTerm]
  refine awp_seqR (fun K hK => ?_)
  simp (maxSteps := 2000000) (disch := omega) [ints, rows, scal, wr64, wr8, rdO, ziO, tmO]
  (repeat' apply And.intro)
  all_goals (try omega)
  refine call_rule (caps := []) (h4) [0] [0] 1 rfl rfl rfl rfl (by kernel_rfl) (by simp) ?_ ?_ (by simp) rfl (by simp) ⟨.inr ⟨rfl, 0, _, _, _, _, _, rfl, rfl, (by first | rfl | simp [rdO]), rfl, (by first | rfl | simp [rdO])⟩, trivial⟩ (by simp [rdO]) ?_
  · simp [scal, rows, ints, rdO]
  · simp [scal, rows, ints, rdO]
  simp (maxSteps := 2000000) (disch := omega) [ints, rows, scal, wr64, wr8, rdO, ziO, tmO, tmV, tsTerm]
  (repeat' first | refine hK _ ?_ | apply And.intro) <;> clear hK K <;> try first | (show chkD _ _ = true; kernel_rfl) | omega | rfl | (simp; done) | (simp; omega)
  refine awp_weak (σ' := mkS [(0, .t 2 (.str s)), (2, .ptr 1 0 6), (5, .ptr 0 0 3), (6, .ptr 2 0 3), (7, .ptr 3 0 3)] [(0, rdO s pf (!b)), (1, ziO), (2, tmO u), (3, tmO v)] 4 57 [.any]) ?_ ?_
  · refine wk_list [(0, some 0), (1, some 1), (2, some 2), (3, some 1000003)] rfl ?_ ?_ ?_ ?_
    all_goals try simp [ints, rdO, ziO, tmO, tsTerm]
  refine awp_seq ?_
  cases b with
  | false =>
    rw [if_pos (.inl rfl)]
    refine awp_seqR (fun K hK => ?_)
    simp (maxSteps := 2000000) (disch := omega) [ints, rows, scal, wr64, wr8, rdO]
    (repeat' first | refine hK _ ?_ | apply And.intro) <;> clear hK K <;> try first | (show chkD _ _ = true; kernel_rfl) | omega | rfl | (simp; done) | (simp; omega)
    refine awp_cond (b := false) (p := 2) (by simp [scal] <;> omega) ?_
    refine awp_skip ?_
    show awp _ _ _ _
    refine awp_seq ?_
    refine awp_seqR (fun K hK => ?_)
    simp (maxSteps := 2000000) (disch := omega) [ints, rows, scal, wr64, wr8, rdO]
    (repeat' first | refine hK _ ?_ | apply And.intro) <;> clear hK K <;> try first | (show chkD _ _ = true; kernel_rfl) | omega | rfl | (simp; done) | (simp; omega)
    refine awp_cond (b := true) (p := 2) (by simp [scal] <;> omega) ?_
    refine awp_seqD (by kernel_rfl) (fun K hK => ?_)
    simp (maxSteps := 2000000) (disch := omega) [ints, rows, scal, wr64, wr8, rdO, ziO, tsIdent]
    (repeat' first | refine hK _ ?_ | apply And.intro) <;> clear hK K <;> try first | (show chkD _ _ = true; kernel_rfl) | omega | rfl | (simp; done) | (simp; omega)
    refine awp_ret ?_
    unfold pidR
    simp only [Int.reduceEq, ↓reduceIte]
    unfold idL0
    refine ⟨⟨.inr rfl, _, [], (by first | rfl | (simp [ints, rows, scal, tsIdent, ziO, rdO]; rfl)), ?_, ?_, ?_, ?_⟩, ?_⟩
    all_goals try simp [ints, rows, scal, tsIdent, ziO, rdO]
  | true =>
    obtain rfl := hv2 rfl
    have hpf := rpeek_fn s pf false hle2 (by omega)
    rw [skipS_id hle2 (hpk2 rfl)] at hpf
    refine awp_seqR (fun K hK => ?_)
    simp (maxSteps := 2000000) (disch := omega) [ints, rows, scal, wr64, wr8, rdO]
    (repeat' first | refine hK _ ?_ | apply And.intro) <;> clear hK K <;> try first | (show chkD _ _ = true; kernel_rfl) | omega | rfl | (simp; done) | (simp; omega)
    refine awp_cond (b := true) (p := 2) (by simp [scal] <;> omega) ?_
    refine awp_R (fun K hK => ?_)
    simp (maxSteps := 2000000) (disch := omega) [ints, rows, scal, wr64, wr8, rdO]
    (repeat' apply And.intro)
    all_goals (try omega)
    refine call_rule (caps := []) (hpf) [0] [0] 1 rfl rfl rfl rfl (by kernel_rfl) (by simp) ?_ ?_ (by simp) rfl (by simp) ⟨.inr ⟨rfl, 0, _, _, _, _, _, rfl, rfl, (by first | rfl | simp [rdO]), rfl, (by first | rfl | simp [rdO])⟩, trivial⟩ (by simp [rdO]) ?_
    · simp [scal, rows, ints, rdO]
    · simp [scal, rows, ints, rdO]
    simp (maxSteps := 2000000) (disch := omega) [ints, rows, scal, wr64, wr8, rdO]
    (repeat' first | refine hK _ ?_ | apply And.intro) <;> clear hK K <;> try first | (show chkD _ _ = true; kernel_rfl) | omega | rfl | (simp; done) | (simp; omega)
    show awp _ _ _ _
    refine awp_seq ?_
    by_cases e3 : pf < s.size
    · have e3' : (pf : Int) < (s.size : Int) := by omega
      rw [if_pos (.inr e3)]
      refine awp_seqR (fun K hK => ?_)
      simp (maxSteps := 2000000) (disch := omega) [ints, rows, scal, wr64, wr8, rdO, e3']
      (repeat' first | refine hK _ ?_ | apply And.intro) <;> clear hK K <;> try first | (show chkD _ _ = true; kernel_rfl) | omega | rfl | (simp; done) | (simp; omega)
      refine awp_cond (b := true) (p := 2) (by simp [scal] <;> omega) ?_
      refine awp_seqD (by kernel_rfl) (fun K hK => ?_)
      simp (maxSteps := 2000000) (disch := omega) [ints, rows, scal, wr64, wr8, rdO, ziO, tsIdent]
      (repeat' first | refine hK _ ?_ | apply And.intro) <;> clear hK K <;> try first | (show chkD _ _ = true; kernel_rfl) | omega | rfl | (simp; done) | (simp; omega)
      refine awp_ret ?_
      unfold pidR
      simp only [Int.reduceEq, ↓reduceIte]
      unfold idL0
      refine ⟨⟨.inr rfl, _, [], (by first | rfl | (simp [ints, rows, scal, tsIdent, ziO, rdO]; rfl)), ?_, ?_, ?_, ?_⟩, ?_⟩
      all_goals try simp [ints, rows, scal, tsIdent, ziO, rdO]
    obtain rfl : pf = s.size := by omega
    rw [if_neg (by simp)]
    have hvu := rValidate_fn u
    have hvv := rValidate_fn v
    refine awp_seqR (fun K hK => ?_)
    simp (maxSteps := 2000000) (disch := omega) [ints, rows, scal, wr64, wr8, rdO]
    (repeat' first | refine hK _ ?_ | apply And.intro) <;> clear hK K <;> try first | (show chkD _ _ = true; kernel_rfl) | omega | rfl | (simp; done) | (simp; omega)
    refine awp_cond (b := false) (p := 2) (by simp [scal] <;> omega) ?_
    refine awp_skip ?_
    show awp _ _ _ _
    refine awp_seq ?_
    by_cases e4 : u.val = true
    case neg =>
      have h21 : vTm u = 21 := by unfold vTm; rw [if_neg e4]
      rw [if_neg (fun h => e4 h.1)]
      rw [h21] at hvu
      refine awp_seqR (fun K hK => ?_)
      simp (maxSteps := 2000000) (disch := omega) [ints, rows, scal, wr64, wr8, tmO, tsTerm]
      (repeat' apply And.intro)
      all_goals (try omega)
      refine call_rule (caps := []) (hvu) [] [] 2 rfl rfl rfl rfl (by kernel_rfl) (by simp) ?_ trivial trivial rfl trivial trivial (by simp) ?_
      · simp [scal, rows, ints, tmV, tmO]
      simp (maxSteps := 2000000) (disch := omega) [ints, rows, scal, wr64, wr8, tmO]
      (repeat' first | refine hK _ ?_ | apply And.intro) <;> clear hK K <;> try first | (show chkD _ _ = true; kernel_rfl) | omega | rfl | (simp; done) | (simp; omega)
      refine awp_cond (b := true) (p := 2) (by simp [scal] <;> omega) ?_
      refine awp_seqR (fun K hK => ?_)
      simp (maxSteps := 2000000) (disch := omega) [ints, rows, scal, wr64, wr8, ziO, tsIdent]
      (repeat' first | refine hK _ ?_ | apply And.intro) <;> clear hK K <;> try first | (show chkD _ _ = true; kernel_rfl) | omega | rfl | (simp; done) | (simp; omega)
      refine awp_ret ?_
      unfold pidR
      simp only [Int.reduceEq, ↓reduceIte]
      unfold idL0
      refine ⟨⟨.inr rfl, _, [], (by first | rfl | (simp [ints, rows, scal, tsIdent, ziO, rdO]; rfl)), ?_, ?_, ?_, ?_⟩, ?_⟩
      all_goals try simp [ints, rows, scal, tsIdent, ziO, rdO]
    have h0 : vTm u = 0 := by unfold vTm; rw [if_pos e4]
    rw [h0] at hvu
    by_cases e5 : v.val = true
    case neg =>
      have h21 : vTm v = 21 := by unfold vTm; rw [if_neg e5]
      rw [if_neg (fun h => e5 h.2)]
      rw [h21] at hvv
      refine awp_seqR (fun K hK => ?_)
      simp (maxSteps := 2000000) (disch := omega) [ints, rows, scal, wr64, wr8, tmO, tsTerm]
      (repeat' apply And.intro)
      all_goals (try omega)
      refine call_rule (caps := []) (hvu) [] [] 2 rfl rfl rfl rfl (by kernel_rfl) (by simp) ?_ trivial trivial rfl trivial trivial (by simp) ?_
      · simp [scal, rows, ints, tmV, tmO]
      simp (maxSteps := 2000000) (disch := omega) [ints, rows, scal, wr64, wr8, tmO, tsTerm]
      (repeat' apply And.intro)
      all_goals (try omega)
      refine call_rule (caps := []) (hvv) [] [] 2 (by simp [scal, rows, ints, tmV, tmO]) rfl rfl rfl (by kernel_rfl) (by simp) ?_ trivial trivial rfl trivial trivial (by simp) ?_
      · simp [scal, rows, ints, tmV, tmO]
      simp (maxSteps := 2000000) (disch := omega) [ints, rows, scal, wr64, wr8, tmO]
      (repeat' first | refine hK _ ?_ | apply And.intro) <;> clear hK K <;> try first | (show chkD _ _ = true; kernel_rfl) | omega | rfl | (simp; done) | (simp; omega)
      refine awp_cond (b := true) (p := 2) (by simp [scal] <;> omega) ?_
      refine awp_seqR (fun K hK => ?_)
      simp (maxSteps := 2000000) (disch := omega) [ints, rows, scal, wr64, wr8, ziO, tsIdent]
      (repeat' first | refine hK _ ?_ | apply And.intro) <;> clear hK K <;> try first | (show chkD _ _ = true; kernel_rfl) | omega | rfl | (simp; done) | (simp; omega)
      refine awp_ret ?_
      unfold pidR
      simp only [Int.reduceEq, ↓reduceIte]
      unfold idL0
      refine ⟨⟨.inr rfl, _, [], (by first | rfl | (simp [ints, rows, scal, tsIdent, ziO, rdO]; rfl)), ?_, ?_, ?_, ?_⟩, ?_⟩
      all_goals try simp [ints, rows, scal, tsIdent, ziO, rdO]
    have h1 : vTm v = 0 := by unfold vTm; rw [if_pos e5]
    rw [h1] at hvv
    rw [if_pos ⟨e4, e5⟩]
    refine awp_seqR (fun K hK => ?_)
    simp (maxSteps := 2000000) (disch := omega) [ints, rows, scal, wr64, wr8, tmO, tsTerm]
    (repeat' apply And.intro)
    all_goals (try omega)
    refine call_rule (caps := []) (hvu) [] [] 2 rfl rfl rfl rfl (by kernel_rfl) (by simp) ?_ trivial trivial rfl trivial trivial (by simp) ?_
    · simp [scal, rows, ints, tmV, tmO]
    simp (maxSteps := 2000000) (disch := omega) [ints, rows, scal, wr64, wr8, tmO, tsTerm]
    (repeat' apply And.intro)
    all_goals (try omega)
    refine call_rule (caps := []) (hvv) [] [] 2 (by simp [scal, rows, ints, tmV, tmO]) rfl rfl rfl (by kernel_rfl) (by simp) ?_ trivial trivial rfl trivial trivial (by simp) ?_
    · simp [scal, rows, ints, tmV, tmO]
    simp (maxSteps := 2000000) (disch := omega) [ints, rows, scal, wr64, wr8, tmO]
    (repeat' first | refine hK _ ?_ | apply And.intro) <;> clear hK K <;> try first | (show chkD _ _ = true; kernel_rfl) | omega | rfl | (simp; done) | (simp; omega)
    refine awp_cond (b := false) (p := 2) (by simp [scal] <;> omega) ?_
    refine awp_skip ?_
    show awp _ _ _ _
    refine awp_seqR (fun K hK => ?_)
    simp (maxSteps := 2000000) (disch := omega) [ints, rows, scal, wr64, wr8, ziO, tmO, tsIdent, tsTerm]
    (repeat' first | refine hK _ ?_ | apply And.intro) <;> clear hK K <;> try first | (show chkD _ _ = true; kernel_rfl) | omega | rfl | (simp; done) | (simp; omega)
    refine awp_ret ?_
    unfold pidR
    simp only [↓reduceIte]
    unfold idV
    refine ⟨⟨.inr rfl, _, [], (by first | rfl | (simp [ints, rows, scal, tsIdent, ziO, rdO]; rfl)), ?_, ?_, ?_, ?_⟩, ?_⟩
    all_goals try simp [ints, rows, scal, tsIdent, ziO, rdO]
theorem rparseId_fn (s : ByteArray) (hs : s.size ≤ 100000) : FnA Try.prog 12 [.t 2 (.str s)] (pidV (parI s)) :=
  FnS.res' (rparseId_fn' s hs) fun E v h => h.upT ⟨fun E v h => by
    by_cases e : (parI s).2.2.2 = 0
    · rw [if_pos e] at h; exact h
    · rw [if_neg e] at h; rw [(parI_err e).1, (parI_err e).2]; exact h.zeI, fun _ _ h => h, fun _ _ h => h, trivial⟩
def teO' (t : Tm) : AObj := .box 26 [.t 2 (.int .i64 t.op), .t 2 (.int .i64 t.n), .t 0 (.sl 3 (cellsL t.args))]
set_option maxRecDepth 100000 in
set_option maxHeartbeats 8000000 in
theorem rsame_fn : ∀ t : Tm, t.sz ≤ 1000000 → FnA Try.prog 13 [tmV 0 t, tmV 0 t] (.t 2 (.bool true)) := by
  intro t
  induction hsz : t.sz using Nat.strongRecOn generalizing t with
  | _ q ih =>
  intro hq
  have hsl := szL_ge t.args
  have hse := sz_eq t
  refine fn_intro Try.func13 rfl (by simp [Try.f13]) ?_
  rw [show Try.f13.ntmps = 46 from rfl, show Try.f13.results = #[.tmp 4] from rfl]
  refine awp_seqR (fun K hK => ?_)
  simp (maxSteps := 2000000) (disch := omega) [ints, rows, scal, wr64, wr8, tmV]
  (repeat' first | refine hK _ ?_ | apply And.intro) <;> clear hK K <;> try first | (show chkD _ _ = true; kernel_rfl) | omega | rfl | (simp; done) | (simp; omega)
  refine awp_seq ?_
  refine awp_seqR (fun K hK => ?_)
  simp (maxSteps := 2000000) (disch := omega) [ints, rows, scal, wr64, wr8, tsTerm]
  (repeat' first | refine hK _ ?_ | apply And.intro) <;> clear hK K <;> try first | (show chkD _ _ = true; kernel_rfl) | omega | rfl | (simp; done) | (simp; omega)
  refine awp_cond (b := false) (p := 2) (by simp [scal] <;> omega) ?_
  refine awp_skip ?_
  show awp _ _ _ _
  refine awp_seq ?_
  refine awp_seqR (fun K hK => ?_)
  simp (maxSteps := 2000000) (disch := omega) [ints, rows, scal, wr64, wr8]
  (repeat' first | refine hK _ ?_ | apply And.intro) <;> clear hK K <;> try first | (show chkD _ _ = true; kernel_rfl) | omega | rfl | (simp; done) | (simp; omega)
  refine awp_block ?_
  refine awp_loop (fun k : Nat => mkS [(2, .ptr 0 0 3), (3, .ptr 1 0 3), (29, .t 2 (.int .i64 t.args.length)), (30, .t 2 (.int .i64 k))] [(0, teO' t), (1, teO' t)] 2 46 [.any, .any]) (fun k => k ≤ t.args.length) (fun k => t.args.length - k) ?_ ?_
  · refine ⟨0, by omega, ?_⟩
    refine wk_list [(0, some 0), (1, some 1000000)] rfl ?_ ?_ ?_ ?_
    all_goals try simp [ints, teO', tmV]
  intro k hk
  refine awp_seqR (fun K hK => ?_)
  simp (maxSteps := 2000000) (disch := omega) [ints, rows, scal, wr64, wr8]
  (repeat' first | refine hK _ ?_ | apply And.intro) <;> clear hK K <;> try first | (show chkD _ _ = true; kernel_rfl) | omega | rfl | (simp; done) | (simp; omega)
  refine awp_seq ?_
  by_cases hkl : k < t.args.length
  · obtain ⟨a, ha⟩ : ∃ a, a = t.args[k] := ⟨_, rfl⟩
    have hcut := cellsL_cut t.args k hkl
    rw [← ha, Tm.cells_eq] at hcut
    have ham : a ∈ t.args := by rw [ha]; exact List.getElem_mem hkl
    have hlt := sz_arg ham
    have hA := ih a.sz (by omega) a rfl (by omega)
    refine awp_cond (b := true) (p := 2) (by simp [scal, hkl] <;> omega) ?_
    refine awp_skip ?_
    show awp _ _ _ _
    refine awp_seq ?_
    refine awp_block ?_
    refine awp_seqR (fun K hK => ?_)
    simp (maxSteps := 2000000) (disch := omega) [ints, rows, scal, wr64, wr8]
    (repeat' first | refine hK _ ?_ | apply And.intro) <;> clear hK K <;> try first | (show chkD _ _ = true; kernel_rfl) | omega | rfl | (simp; done) | (simp; omega)
    refine awp_seqD (by kernel_rfl) (fun K hK => ?_)
    simp (maxSteps := 2000000) (disch := omega) [ints, rows, scal, wr64, wr8, teO', hcut, hkl]
    (repeat' apply And.intro)
    all_goals (try omega)
    refine call_ruleD (caps := []) (hA) [] [] 2 rfl rfl rfl rfl (by kernel_rfl) (by simp) ?_ trivial trivial rfl trivial trivial (by simp) ?_
    · simp [scal, rows, ints, tmV]
    simp (maxSteps := 2000000) (disch := omega) [ints, rows, scal, wr64, wr8]
    (repeat' first | refine hK _ ?_ | apply And.intro) <;> clear hK K <;> try first | (show chkD _ _ = true; kernel_rfl) | omega | rfl | (simp; done) | (simp; omega)
    refine awp_cond (b := false) (p := 2) (by simp [scal] <;> omega) ?_
    refine awp_skip ?_
    show awp _ _ _ _
    refine awp_R (fun K hK => ?_)
    simp (maxSteps := 2000000) (disch := omega) [ints, rows, scal, wr64, wr8]
    (repeat' first | refine hK _ ?_ | apply And.intro) <;> clear hK K <;> try first | (show chkD _ _ = true; kernel_rfl) | omega | rfl | (simp; done) | (simp; omega)
    refine ⟨k + 1, by omega, by omega, ?_⟩
    refine wk_list [(0, some 0), (1, some 1)] rfl ?_ ?_ ?_ ?_
    all_goals try simp [ints, teO']
  · obtain rfl : k = t.args.length := by omega
    refine awp_cond (b := false) (p := 2) (by simp [scal] <;> omega) ?_
    refine awp_exit ?_
    show awp _ _ _ _
    refine awp_seqR (fun K hK => ?_)
    simp (maxSteps := 2000000) (disch := omega) [ints, rows, scal, wr64, wr8]
    (repeat' first | refine hK _ ?_ | apply And.intro) <;> clear hK K <;> try first | (show chkD _ _ = true; kernel_rfl) | omega | rfl | (simp; done) | (simp; omega)
    refine awp_ret ?_
    refine ⟨⟨.inr rfl, _, [], rfl, trivial, trivial, by simp [tmV], ?_⟩, by simp [tmV]⟩
    simp [tmV]
end Go.Proofs.Ytghnmmfkckneaaa.M
