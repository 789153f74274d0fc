/-
  Walks in my logic: the small functions of the parser of layer 28.
  Walk in my logic: the exponents of the parser of layer 28.
  The parser of layer 28 in plain Lean.
  Walk in my logic: the parser of layer 28, atom.
  Walk in my logic: the parser of layer 28, factor.
  The parser of layer 28 in plain Lean: terms, places and fuel.
  Walk in my logic: the parser of layer 28, term.
  Walks in my logic: Parse and ParseIdentity of layer 28.
  Walks in my logic: the texts of terms (omega.appendTerm, Format, FormatIdentity).
  The text of a term is read back (layer 28, plain Lean).
-/
import Derived.Test.YtghnmmfkckneaaaGreatZsah
import Derived.Test.YtghnmmfkckneaaaGreatZsan
namespace Go.Proofs.YtghnmmfkckneaaaGreat.M
open Go.RowKit
set_option linter.unusedVariables false
set_option maxRecDepth 100000
set_option maxHeartbeats 32000000
attribute [local simp] ints rows scal wr64 wr8
set_option linter.unusedSimpArgs false

theorem idxRun (s : ByteArray) (c : Int) (w : World) : (callFunc 127 #[.string s, .int .u8 c]).run Tryz.prog w = .ok (.value (.int .i64 (firstIdx s c.toNat.toUInt8))) w := by
 rw [run_callFunc_extern (fn := Tryz.f127) (e := Extern.BytealgIndexByte.indexByte) Tryz.func127 (by kernel_rfl) (by kernel_rfl) (by kernel_rfl) (by rfl)]
 rw [run_indexByte_string]
 rfl
theorem liteIndex_fn (s : ByteArray) (c : Int) : FnA Tryz.prog 125 [.t 0 (.str s), .t 2 (.int .u8 c)] (.t 2 (.int .i64 (firstIdx s c.toNat.toUInt8))) := by
 refine fn_intro Tryz.func125 rfl (by simp [Tryz.f125]) ?_
 rw [show Tryz.f125.ntmps = 8 from rfl, show Tryz.f125.results = #[.tmp 4] from rfl]
 refine rgS fun K hK => ?_
 simp (disch := omega)
 and_intros <;> try first | apply hK | omega | rfl | simp <;> omega
 refine rgS fun K hK => ?_
 simp (disch := omega)
 refine call_ext s c 0 2 rfl rfl rfl rfl (by simp) (by simp) (idxRun s c) ?_
 simp (disch := omega)
 and_intros <;> try first | apply hK | omega | rfl | simp <;> omega
 refine awp_ret ?_
 refine ⟨⟨.inr rfl, _, [], rfl, trivial, trivial, by simp, ?_⟩, by simp⟩
 simp
theorem strIndex_fn (s : ByteArray) (c : Int) : FnA Tryz.prog 119 [.t 0 (.str s), .t 2 (.int .u8 c)] (.t 2 (.int .i64 (firstIdx s c.toNat.toUInt8))) := by
 have h := liteIndex_fn s c
 refine fn_intro Tryz.func119 rfl (by simp [Tryz.f119]) ?_
 rw [show Tryz.f119.ntmps = 8 from rfl, show Tryz.f119.results = #[.tmp 4] from rfl]
 refine rgS fun K hK => ?_
 simp (disch := omega)
 and_intros <;> try first | apply hK | omega | rfl | simp <;> omega
 refine rgS fun K hK => ?_
 simp (disch := omega)
 (repeat' apply And.intro)
 all_goals (try omega)
 refine callO (h) rfl rfl rfl rfl (by kernel_rfl) (by simp) ?_ ?_
 ·simp
 simp (disch := omega)
 and_intros <;> try first | apply hK | omega | rfl | simp <;> omega
 refine awp_ret ?_
 refine ⟨⟨.inr rfl, _, [], rfl, trivial, trivial, by simp, ?_⟩, by simp⟩
 simp
def varI (c : Int) : Int := if c = 120 then 0 else if c = 121 then 1 else if c = 122 then 2 else if c = 117 then 3 else if c = 118 then 4 else if c = 116 then 5 else -1
def namesB : ByteArray := ⟨#[120, 121, 122, 117, 118, 116]⟩
theorem varI_idx' : ∀ c : Fin 256, firstIdx namesB c.val.toUInt8 = varI (c.val : Int) := by decide +kernel
theorem varI_idx {c : Int} (h0 : 0 ≤ c) (h1 : c < 256) : firstIdx namesB c.toNat.toUInt8 = varI c := by
 have := varI_idx' ⟨c.toNat, by omega⟩
 simp only at this
 rw [this]
 congr 1
 omega
def begB (c : Int) : Bool := decide (c = 49) || decide (c = 40) || (decide (c ≠ 0) && decide (0 ≤ varI c))
theorem begins_fn {c : Int} (h0 : 0 ≤ c) (h1 : c < 256) : FnA Tryz.prog 105 [.t 2 (.int .u8 c)] (.t 2 (.bool (begB c))) := by
 have h := strIndex_fn namesB c
 rw [varI_idx h0 h1] at h
 unfold namesB at h
 refine fn_intro Tryz.func105 rfl (by simp [Tryz.f105]) ?_
 rw [show Tryz.f105.ntmps = 18 from rfl, show Tryz.f105.results = #[.tmp 2] from rfl]
 refine rgS fun K hK => ?_
 simp (disch := omega)
 (repeat' first | apply hK | apply And.intro) <;> try first | omega | rfl | (simp <;> omega)
 by_cases e1 : c = 49
 ·subst e1
  refine rgS fun K hK => ?_
  simp (disch := omega)
  (repeat' first | apply hK | apply And.intro) <;> try first | omega | rfl | (simp <;> omega)
  all_goals (refine awp_ret ?_; refine ⟨⟨.inr rfl, _, [], rfl, trivial, trivial, by simp [begB], ?_⟩, by simp [begB]⟩; simp [begB])
 by_cases e2 : c = 40
 ·subst e2
  refine rgS fun K hK => ?_
  simp (disch := omega)
  (repeat' first | apply hK | apply And.intro) <;> try first | omega | rfl | (simp <;> omega)
  all_goals (refine awp_ret ?_; refine ⟨⟨.inr rfl, _, [], rfl, trivial, trivial, by simp [begB], ?_⟩, by simp [begB]⟩; simp [begB])
 have b1 : (c == 49) = false := by simpa using e1
 have b2 : (c == 40) = false := by simpa using e2
 by_cases e3 : c = 0
 ·subst e3
  refine rgS fun K hK => ?_
  simp (disch := omega)
  (repeat' first | apply hK | apply And.intro) <;> try first | omega | rfl | (simp <;> omega)
  all_goals (refine awp_ret ?_; refine ⟨⟨.inr rfl, _, [], rfl, trivial, trivial, by simp [begB], ?_⟩, by simp [begB]⟩; simp [begB])
 ·have b3 : (c == 0) = false := by simpa using e3
  have b4 : (c != 0) = true := by simpa using e3
  refine rgS fun K hK => ?_
  simp (disch := omega) [b1, b2, b3, b4, e3]
  (repeat' apply And.intro)
  all_goals (try omega)
  refine callO (h) (by simp [b1, b2, b3, b4, e3]) rfl rfl rfl (by kernel_rfl) (by simp) ?_ ?_
  ·simp [b1, b2, b3, b4, e3]
  simp (disch := omega) [b1, b2, b3, b4, e3]
  (repeat' first | apply hK | apply And.intro) <;> try first | omega | rfl | (simp <;> omega)
  all_goals (refine awp_ret ?_; refine ⟨⟨.inr rfl, _, [], rfl, trivial, trivial, by simp [begB, e1, e2, e3], ?_⟩, by simp [begB, e1, e2, e3]⟩; simp [begB, e1, e2, e3])
def prO (s : ByteArray) (pos : Nat) : AObj := .box 115 [.t 1 (.str s), .t 2 (.int .i64 (pos : Int))]
def pkB (s : ByteArray) (pos : Nat) : Int := if pos = s.size then 0 else byteAt s pos
theorem peek_fn (s : ByteArray) (pos : Nat) (hp : pos ≤ s.size) (hs : s.size ≤ 1000000) : FnS Tryz.prog 106 [.ptr 0 0 2] [prO s pos] (.t 2 (.int .u8 (pkB s pos))) [prO s pos] := by
 refine fn_intro Tryz.func106 rfl (by simp [Tryz.f106]) ?_
 rw [show Tryz.f106.ntmps = 22 from rfl, show Tryz.f106.results = #[.tmp 2] from rfl]
 refine rgS fun K hK => ?_
 simp (disch := omega)
 and_intros <;> try first | apply hK | omega | rfl | simp <;> omega
 refine awp_seq ?_
 refine awp_seqD (by kernel_rfl) (fun K hK => ?_)
 simp (disch := omega) [prO]
 (repeat' first | apply hK | apply And.intro) <;> try first | (show chkD _ _ = true; kernel_rfl) | omega | rfl | (simp <;> omega)
 by_cases he : pos = s.size
 ·subst he
  refine condT (by simp <;> omega) ?_
  refine rgS fun K hK => ?_
  simp (disch := omega)
  and_intros <;> try first | apply hK | omega | rfl | simp <;> omega
  refine awp_ret ?_
  have hpk : pkB s s.size = 0 := by unfold pkB; rw [if_pos rfl]
  refine ⟨⟨.inr rfl, _, [(0, some 0)], (by first | rfl | (simp [prO, hpk]; rfl)), ?_, ?_, ?_, ?_⟩, ?_⟩
  all_goals try simp [prO, hpk]
 ·refine condF (by simp [he] <;> omega) ?_
  refine awp_skip ?_
  show awp _ _ _ _
  refine awp_seqD (by kernel_rfl) (fun K hK => ?_)
  simp (disch := omega) [prO]
  and_intros <;> try first | apply hK | (show chkD _ _ = true; kernel_rfl) | omega | rfl | simp <;> omega
  refine awp_ret ?_
  have hpk : pkB s pos = byteAt s pos := by unfold pkB; rw [if_neg he]
  refine ⟨⟨.inr rfl, _, [(0, some 0)], (by first | rfl | (simp [prO, hpk]; rfl)), ?_, ?_, ?_, ?_⟩, ?_⟩
  all_goals try simp [prO, hpk]
theorem pkB_lt {s : ByteArray} {pos : Nat} {b : Int} (hp : pos ≤ s.size) (hb : b ≠ 0) (h : pkB s pos = b) : pos < s.size := by
 unfold pkB at h
 split at h
 ·omega
 ·omega
theorem accept_fn (s : ByteArray) (pos : Nat) (b : Int) (hp : pos ≤ s.size) (hs : s.size ≤ 1000000) (hb : b ≠ 0) : FnS Tryz.prog 76 [.ptr 0 0 2, .t 2 (.int .u8 b)] [prO s pos] (.t 2 (.bool (decide (pkB s pos = b)))) [prO s (if pkB s pos = b then pos + 1 else pos)] := by
 have hpk := peek_fn s pos hp hs
 refine fn_intro Tryz.func76 rfl (by simp [Tryz.f76]) ?_
 rw [show Tryz.f76.ntmps = 16 from rfl, show Tryz.f76.results = #[.tmp 4] from rfl]
 refine rgS fun K hK => ?_
 simp (disch := omega)
 and_intros <;> try first | apply hK | omega | rfl | simp <;> omega
 refine awp_seq ?_
 refine rgS fun K hK => ?_
 simp (disch := omega)
 (repeat' apply And.intro)
 all_goals (try omega)
 refine call_rule (caps := []) (hpk) [0] [0] 1 rfl rfl rfl rfl (by kernel_rfl) (by simp) ?_ ?_ (by simp) rfl (by simp) ⟨.inr ⟨rfl, 0, _, _, _, _, _, rfl, rfl, (by first | rfl | simp [prO]), rfl, (by first | rfl | simp [prO])⟩, trivial⟩ (by simp [prO]) ?_
 ·simp [prO]
 ·simp [prO]
 simp (disch := omega) [prO]
 (repeat' first | apply hK | apply And.intro) <;> try first | omega | rfl | (simp <;> omega)
 by_cases he : pkB s pos = b
 ·have hlt := pkB_lt hp hb he
  refine condF (by simp [he] <;> omega) ?_
  refine awp_skip ?_
  show awp _ _ _ _
  refine rgS fun K hK => ?_
  simp (disch := omega) [prO]
  and_intros <;> try first | apply hK | omega | rfl | simp <;> omega
  refine rgS fun K hK => ?_
  simp (disch := omega)
  and_intros <;> try first | apply hK | omega | rfl | simp <;> omega
  refine awp_ret ?_
  refine ⟨⟨.inr rfl, _, [(0, some 0)], (by first | rfl | (simp [prO, he]; rfl)), ?_, ?_, ?_, ?_⟩, ?_⟩
  all_goals try simp [prO, he]
 ·refine condT (by simp [he] <;> omega) ?_
  refine rgS fun K hK => ?_
  simp (disch := omega)
  and_intros <;> try first | apply hK | omega | rfl | simp <;> omega
  refine awp_ret ?_
  refine ⟨⟨.inr rfl, _, [(0, some 0)], (by first | rfl | (simp [prO, he]; rfl)), ?_, ?_, ?_, ?_⟩, ?_⟩
  all_goals try simp [prO, he]
def skF (s : ByteArray) : Nat → Nat → Nat
 | 0, pos => pos
 | f + 1, pos => if pkB s pos = 32 then skF s f (pos + 1) else pos
def skipS (s : ByteArray) (pos : Nat) : Nat := skF s (s.size - pos) pos
theorem skipS_eq {s : ByteArray} {pos : Nat} (hp : pos ≤ s.size) : skipS s pos = if pkB s pos = 32 then skipS s (pos + 1) else pos := by
 unfold skipS
 by_cases h : pkB s pos = 32
 ·have hlt := pkB_lt hp (by omega) h
  rw [if_pos h, show s.size - pos = (s.size - (pos + 1)) + 1 by omega]
  show (if pkB s pos = 32 then _ else _) = _
  rw [if_pos h]
 ·rw [if_neg h]
  cases hf : s.size - pos with
  | zero => rfl
  | succ f =>
   show (if pkB s pos = 32 then _ else _) = _
   rw [if_neg h]
theorem skF_le {s : ByteArray} : ∀ f pos, pos + f ≤ s.size → skF s f pos ≤ s.size ∧ pos ≤ skF s f pos
 | 0, pos, h => ⟨by simpa [skF] using h, Nat.le_refl _⟩
 | f + 1, pos, h => by
  unfold skF
  split
  ·have := skF_le (s := s) f (pos + 1) (by omega)
   exact ⟨this.1, by omega⟩
  ·exact ⟨by omega, Nat.le_refl _⟩
theorem skipS_le {s : ByteArray} {pos : Nat} (hp : pos ≤ s.size) : skipS s pos ≤ s.size ∧ pos ≤ skipS s pos := skF_le _ _ (by omega)
theorem spaces_fn (s : ByteArray) (pos : Nat) (hp : pos ≤ s.size) (hs : s.size ≤ 1000000) : FnS Tryz.prog 104 [.ptr 0 0 2] [prO s pos] (.tup []) [prO s (skipS s pos)] := by
 refine fn_intro Tryz.func104 rfl (by simp [Tryz.f104]) ?_
 rw [show Tryz.f104.ntmps = 4 from rfl, show Tryz.f104.results = #[] from rfl]
 refine awp_block ?_
 refine awp_loop (fun q : Nat => mkS [(0, .ptr 0 0 2)] [(0, prO s q)] 1 4 [.ptr 0 0 2]) (fun q => q ≤ s.size ∧ skipS s q = skipS s pos) (fun q => s.size - q) ?_ ?_
 ·refine ⟨pos, ⟨hp, rfl⟩, ?_⟩
  refine wk_list [(0, some 0)] rfl ?_ ?_ ?_ ?_
  all_goals try simp [prO]
 rintro q ⟨hq, hsk⟩
 have hac := accept_fn s q 32 hq hs (by omega)
 refine awp_seq ?_
 refine rgS fun K hK => ?_
 simp (disch := omega)
 (repeat' apply And.intro)
 all_goals (try omega)
 refine call_rule (caps := []) (hac) [0] [0] 1 rfl rfl rfl rfl (by kernel_rfl) (by simp) ?_ ?_ (by simp) rfl (by simp) ⟨.inr ⟨rfl, 0, _, _, _, _, _, rfl, rfl, (by first | rfl | simp [prO]), rfl, (by first | rfl | simp [prO])⟩, trivial⟩ (by simp [prO]) ?_
 ·simp [prO]
 ·simp [prO]
 simp (disch := omega) [prO]
 (repeat' first | apply hK | apply And.intro) <;> try first | omega | rfl | (simp <;> omega)
 by_cases he : pkB s q = 32
 ·have hlt := pkB_lt hq (by omega) he
  refine condT (by simp [he] <;> omega) ?_
  refine awp_skip ?_
  show awp _ _ _ _
  refine awp_block ?_
  refine awp_skip ?_
  rw [skipS_eq hq, if_pos he] at hsk
  refine ⟨q + 1, ⟨by omega, hsk⟩, by omega, ?_⟩
  refine wk_list [(0, some 0)] rfl ?_ ?_ ?_ ?_
  all_goals try simp [prO, he]
 ·rw [skipS_eq hq, if_neg he] at hsk
  refine condF (by simp [he] <;> omega) ?_
  refine awp_exit ?_
  have hq2 : (if pkB s q = 32 then q + 1 else q) = skipS s pos := by rw [if_neg he]; exact hsk
  refine ⟨⟨.inl rfl, _, [(0, some 0)], rfl, ?_, ?_, ?_, ?_⟩, ?_⟩
  all_goals simp [prO, hq2]

set_option maxRecDepth 100000
set_option maxHeartbeats 32000000
attribute [local simp] ints rows scal wr64 wr8
set_option linter.unusedSimpArgs false

def expS (s : ByteArray) (pos : Nat) : Int × Bool × Nat :=
 if pkB s pos = 119 then (0, true, pos + 1)
 else if pkB s pos ≠ 40 then (0, false, pos)
 else if pkB s (pos + 1) ≠ 119 then (0, false, pos + 1)
 else if pkB s (pos + 1 + 1) = 45 then
  (if pkB s (pos + 1 + 1 + 1) ≠ 49 then (-1, false, pos + 1 + 1 + 1) else if pkB s (pos + 1 + 1 + 1 + 1) ≠ 41 then (-1, false, pos + 1 + 1 + 1 + 1) else (-1, true, pos + 1 + 1 + 1 + 1 + 1))
 else if pkB s (pos + 1 + 1) ≠ 43 then (0, false, pos + 1 + 1)
 else if pkB s (pos + 1 + 1 + 1) < 49 ∨ 57 < pkB s (pos + 1 + 1 + 1) then (0, false, pos + 1 + 1 + 1)
 else if pkB s (pos + 1 + 1 + 1 + 1) ≠ 41 then (pkB s (pos + 1 + 1 + 1) - 48, false, pos + 1 + 1 + 1 + 1) else (pkB s (pos + 1 + 1 + 1) - 48, true, pos + 1 + 1 + 1 + 1 + 1)
theorem accept_yes {s : ByteArray} {pos : Nat} {b : Int} (hp : pos ≤ s.size) (hs : s.size ≤ 1000000) (hb : b ≠ 0) (h : pkB s pos = b) : pos + 1 ≤ s.size ∧ FnS Tryz.prog 76 [.ptr 0 0 2, .t 2 (.int .u8 b)] [prO s pos] (.t 2 (.bool true)) [prO s (pos + 1)] := by
 have := accept_fn s pos b hp hs hb
 rw [if_pos h, decide_eq_true h] at this
 exact ⟨pkB_lt hp hb h, this⟩
theorem accept_no {s : ByteArray} {pos : Nat} {b : Int} (hp : pos ≤ s.size) (hs : s.size ≤ 1000000) (hb : b ≠ 0) (h : pkB s pos ≠ b) : FnS Tryz.prog 76 [.ptr 0 0 2, .t 2 (.int .u8 b)] [prO s pos] (.t 2 (.bool false)) [prO s pos] := by
 have := accept_fn s pos b hp hs hb
 rw [if_neg h, decide_eq_false h] at this
 exact this
theorem exponent_fn (s : ByteArray) (pos : Nat) (hp : pos ≤ s.size) (hs : s.size ≤ 1000000) : FnS Tryz.prog 121 [.ptr 0 0 2] [prO s pos] (.tup [.t 2 (.int .i64 (expS s pos).1), .t 2 (.bool (expS s pos).2.1)]) [prO s (expS s pos).2.2] := by
 refine fn_intro Tryz.func121 rfl (by simp [Tryz.f121]) ?_
 rw [show Tryz.f121.ntmps = 50 from rfl, show Tryz.f121.results = #[.tmp 2, .tmp 3] from rfl]
 refine rgS fun K hK => ?_
 simp (disch := omega)
 and_intros <;> try first | apply hK | omega | rfl | simp <;> omega
 refine awp_seq ?_
 by_cases e1 : pkB s pos = 119
 ·obtain ⟨-, h1⟩ := accept_yes hp hs (by omega) e1
  have hres : expS s pos = (0, true, pos + 1) := by unfold expS; rw [if_pos e1]
  refine rgS fun K hK => ?_
  simp (disch := omega)
  (repeat' apply And.intro)
  all_goals (try omega)
  refine call_rule (caps := []) (h1) [0] [0] 1 rfl rfl rfl rfl (by kernel_rfl) (by simp) ?_ ?_ (by simp) rfl (by simp) ⟨.inr ⟨rfl, 0, _, _, _, _, _, rfl, rfl, (by first | rfl | simp [prO]), rfl, (by first | rfl | simp [prO])⟩, trivial⟩ (by simp [prO]) ?_
  ·simp [prO]
  ·simp [prO]
  simp (disch := omega) [prO]
  and_intros <;> try first | apply hK | omega | rfl | simp <;> omega
  refine condT (by simp <;> omega) ?_
  refine rgS fun K hK => ?_
  simp (disch := omega)
  and_intros <;> try first | apply hK | omega | rfl | simp <;> omega
  refine awp_ret ?_
  refine ⟨⟨.inr rfl, _, [(0, some 0)], (by first | rfl | (simp [prO, hres]; rfl)), ?_, ?_, ?_, ?_⟩, ?_⟩
  all_goals try simp [prO, hres]
 have h1 := accept_no hp hs (by omega) e1
 refine rgS fun K hK => ?_
 simp (disch := omega)
 (repeat' apply And.intro)
 all_goals (try omega)
 refine call_rule (caps := []) (h1) [0] [0] 1 rfl rfl rfl rfl (by kernel_rfl) (by simp) ?_ ?_ (by simp) rfl (by simp) ⟨.inr ⟨rfl, 0, _, _, _, _, _, rfl, rfl, (by first | rfl | simp [prO]), rfl, (by first | rfl | simp [prO])⟩, trivial⟩ (by simp [prO]) ?_
 ·simp [prO]
 ·simp [prO]
 simp (disch := omega) [prO]
 and_intros <;> try first | apply hK | omega | rfl | simp <;> omega
 refine condF (by simp <;> omega) ?_
 refine awp_skip ?_
 show awp _ _ _ _
 refine awp_seq ?_
 by_cases e2 : pkB s pos = 40
 case neg =>
  have h2 := accept_no hp hs (by omega) e2
  have hres : expS s pos = (0, false, pos) := by unfold expS; rw [if_neg e1, if_pos e2]
  refine rgS fun K hK => ?_
  simp (disch := omega)
  (repeat' apply And.intro)
  all_goals (try omega)
  refine call_rule (caps := []) (h2) [0] [0] 1 rfl rfl rfl rfl (by kernel_rfl) (by simp) ?_ ?_ (by simp) rfl (by simp) ⟨.inr ⟨rfl, 0, _, _, _, _, _, rfl, rfl, (by first | rfl | simp [prO]), rfl, (by first | rfl | simp [prO])⟩, trivial⟩ (by simp [prO]) ?_
  ·simp [prO]
  ·simp [prO]
  simp (disch := omega) [prO]
  and_intros <;> try first | apply hK | omega | rfl | simp <;> omega
  refine condT (by simp <;> omega) ?_
  refine rgS fun K hK => ?_
  simp (disch := omega)
  and_intros <;> try first | apply hK | omega | rfl | simp <;> omega
  refine awp_ret ?_
  refine ⟨⟨.inr rfl, _, [(0, some 0)], (by first | rfl | (simp [prO, hres]; rfl)), ?_, ?_, ?_, ?_⟩, ?_⟩
  all_goals try simp [prO, hres]
 obtain ⟨hp1, h2⟩ := accept_yes hp hs (by omega) e2
 by_cases e3 : pkB s (pos + 1) = 119
 case neg =>
  have h3 := accept_no hp1 hs (by omega) e3
  have hres : expS s pos = (0, false, pos + 1) := by unfold expS; rw [if_neg e1, if_neg (by simpa using e2), if_pos e3]
  refine rgS fun K hK => ?_
  simp (disch := omega)
  (repeat' apply And.intro)
  all_goals (try omega)
  refine call_rule (caps := []) (h2) [0] [0] 1 rfl rfl rfl rfl (by kernel_rfl) (by simp) ?_ ?_ (by simp) rfl (by simp) ⟨.inr ⟨rfl, 0, _, _, _, _, _, rfl, rfl, (by first | rfl | simp [prO]), rfl, (by first | rfl | simp [prO])⟩, trivial⟩ (by simp [prO]) ?_
  ·simp [prO]
  ·simp [prO]
  simp (disch := omega) [prO]
  (repeat' apply And.intro)
  all_goals (try omega)
  refine call_rule (caps := []) (h3) [0] [0] 1 (by simp [prO]) rfl rfl rfl (by kernel_rfl) (by simp) ?_ ?_ (by simp) rfl (by simp) ⟨.inr ⟨rfl, 0, _, _, _, _, _, rfl, rfl, (by first | rfl | simp [prO]), rfl, (by first | rfl | simp [prO])⟩, trivial⟩ (by simp [prO]) ?_
  ·simp [prO]
  ·simp [prO]
  simp (disch := omega) [prO]
  and_intros <;> try first | apply hK | omega | rfl | simp <;> omega
  refine condT (by simp <;> omega) ?_
  refine rgS fun K hK => ?_
  simp (disch := omega)
  and_intros <;> try first | apply hK | omega | rfl | simp <;> omega
  refine awp_ret ?_
  refine ⟨⟨.inr rfl, _, [(0, some 0)], (by first | rfl | (simp [prO, hres]; rfl)), ?_, ?_, ?_, ?_⟩, ?_⟩
  all_goals try simp [prO, hres]
 obtain ⟨hp2, h3⟩ := accept_yes hp1 hs (by omega) e3
 refine rgS fun K hK => ?_
 simp (disch := omega)
 (repeat' apply And.intro)
 all_goals (try omega)
 refine call_rule (caps := []) (h2) [0] [0] 1 rfl rfl rfl rfl (by kernel_rfl) (by simp) ?_ ?_ (by simp) rfl (by simp) ⟨.inr ⟨rfl, 0, _, _, _, _, _, rfl, rfl, (by first | rfl | simp [prO]), rfl, (by first | rfl | simp [prO])⟩, trivial⟩ (by simp [prO]) ?_
 ·simp [prO]
 ·simp [prO]
 simp (disch := omega) [prO]
 (repeat' apply And.intro)
 all_goals (try omega)
 refine call_rule (caps := []) (h3) [0] [0] 1 (by simp [prO]) rfl rfl rfl (by kernel_rfl) (by simp) ?_ ?_ (by simp) rfl (by simp) ⟨.inr ⟨rfl, 0, _, _, _, _, _, rfl, rfl, (by first | rfl | simp [prO]), rfl, (by first | rfl | simp [prO])⟩, trivial⟩ (by simp [prO]) ?_
 ·simp [prO]
 ·simp [prO]
 simp (disch := omega) [prO]
 and_intros <;> try first | apply hK | omega | rfl | simp <;> omega
 refine condF (by simp <;> omega) ?_
 refine awp_skip ?_
 show awp _ _ _ _
 refine awp_seq ?_
 have hne2 : ¬ pkB s pos ≠ 40 := by simpa using e2
 have hne3 : ¬ pkB s (pos + 1) ≠ 119 := by simpa using e3
 by_cases e4 : pkB s (pos + 1 + 1) = 45
 ·obtain ⟨hp3, h4⟩ := accept_yes hp2 hs (by omega) e4
  refine rgS fun K hK => ?_
  simp (disch := omega)
  (repeat' apply And.intro)
  all_goals (try omega)
  refine call_rule (caps := []) (h4) [0] [0] 1 rfl rfl rfl rfl (by kernel_rfl) (by simp) ?_ ?_ (by simp) rfl (by simp) ⟨.inr ⟨rfl, 0, _, _, _, _, _, rfl, rfl, (by first | rfl | simp [prO]), rfl, (by first | rfl | simp [prO])⟩, trivial⟩ (by simp [prO]) ?_
  ·simp [prO]
  ·simp [prO]
  simp (disch := omega) [prO]
  and_intros <;> try first | apply hK | omega | rfl | simp <;> omega
  refine condT (by simp <;> omega) ?_
  by_cases e5 : pkB s (pos + 1 + 1 + 1) = 49
  case neg =>
   have h5 := accept_no hp3 hs (by omega) e5
   have hres : expS s pos = (-1, false, pos + 1 + 1 + 1) := by unfold expS; rw [if_neg e1, if_neg hne2, if_neg hne3, if_pos e4, if_pos e5]
   refine rgS fun K hK => ?_
   simp (disch := omega)
   (repeat' apply And.intro)
   all_goals (try omega)
   refine call_rule (caps := []) (h5) [0] [0] 1 rfl rfl rfl rfl (by kernel_rfl) (by simp) ?_ ?_ (by simp) rfl (by simp) ⟨.inr ⟨rfl, 0, _, _, _, _, _, rfl, rfl, (by first | rfl | simp [prO]), rfl, (by first | rfl | simp [prO])⟩, trivial⟩ (by simp [prO]) ?_
   ·simp [prO]
   ·simp [prO]
   simp (disch := omega) [prO]
   and_intros <;> try first | apply hK | omega | rfl | simp <;> omega
   refine awp_ret ?_
   refine ⟨⟨.inr rfl, _, [(0, some 0)], (by first | rfl | (simp [prO, hres]; rfl)), ?_, ?_, ?_, ?_⟩, ?_⟩
   all_goals try simp [prO, hres]
  obtain ⟨hp4, h5⟩ := accept_yes hp3 hs (by omega) e5
  have hne5 : ¬ pkB s (pos + 1 + 1 + 1) ≠ 49 := by simpa using e5
  by_cases e6 : pkB s (pos + 1 + 1 + 1 + 1) = 41
  case neg =>
   have h6 := accept_no hp4 hs (by omega) e6
   have hres : expS s pos = (-1, false, pos + 1 + 1 + 1 + 1) := by unfold expS; rw [if_neg e1, if_neg hne2, if_neg hne3, if_pos e4, if_neg hne5, if_pos e6]
   refine rgS fun K hK => ?_
   simp (disch := omega)
   (repeat' apply And.intro)
   all_goals (try omega)
   refine call_rule (caps := []) (h5) [0] [0] 1 rfl rfl rfl rfl (by kernel_rfl) (by simp) ?_ ?_ (by simp) rfl (by simp) ⟨.inr ⟨rfl, 0, _, _, _, _, _, rfl, rfl, (by first | rfl | simp [prO]), rfl, (by first | rfl | simp [prO])⟩, trivial⟩ (by simp [prO]) ?_
   ·simp [prO]
   ·simp [prO]
   simp (disch := omega) [prO]
   (repeat' apply And.intro)
   all_goals (try omega)
   refine call_rule (caps := []) (h6) [0] [0] 1 (by simp [prO]) rfl rfl rfl (by kernel_rfl) (by simp) ?_ ?_ (by simp) rfl (by simp) ⟨.inr ⟨rfl, 0, _, _, _, _, _, rfl, rfl, (by first | rfl | simp [prO]), rfl, (by first | rfl | simp [prO])⟩, trivial⟩ (by simp [prO]) ?_
   ·simp [prO]
   ·simp [prO]
   simp (disch := omega) [prO]
   and_intros <;> try first | apply hK | omega | rfl | simp <;> omega
   refine awp_ret ?_
   refine ⟨⟨.inr rfl, _, [(0, some 0)], (by first | rfl | (simp [prO, hres]; rfl)), ?_, ?_, ?_, ?_⟩, ?_⟩
   all_goals try simp [prO, hres]
  obtain ⟨hp5, h6⟩ := accept_yes hp4 hs (by omega) e6
  have hres : expS s pos = (-1, true, pos + 1 + 1 + 1 + 1 + 1) := by unfold expS; rw [if_neg e1, if_neg hne2, if_neg hne3, if_pos e4, if_neg hne5, if_neg (by simpa using e6)]
  refine rgS fun K hK => ?_
  simp (disch := omega)
  (repeat' apply And.intro)
  all_goals (try omega)
  refine call_rule (caps := []) (h5) [0] [0] 1 rfl rfl rfl rfl (by kernel_rfl) (by simp) ?_ ?_ (by simp) rfl (by simp) ⟨.inr ⟨rfl, 0, _, _, _, _, _, rfl, rfl, (by first | rfl | simp [prO]), rfl, (by first | rfl | simp [prO])⟩, trivial⟩ (by simp [prO]) ?_
  ·simp [prO]
  ·simp [prO]
  simp (disch := omega) [prO]
  (repeat' apply And.intro)
  all_goals (try omega)
  refine call_rule (caps := []) (h6) [0] [0] 1 (by simp [prO]) rfl rfl rfl (by kernel_rfl) (by simp) ?_ ?_ (by simp) rfl (by simp) ⟨.inr ⟨rfl, 0, _, _, _, _, _, rfl, rfl, (by first | rfl | simp [prO]), rfl, (by first | rfl | simp [prO])⟩, trivial⟩ (by simp [prO]) ?_
  ·simp [prO]
  ·simp [prO]
  simp (disch := omega) [prO]
  and_intros <;> try first | apply hK | omega | rfl | simp <;> omega
  refine awp_ret ?_
  refine ⟨⟨.inr rfl, _, [(0, some 0)], (by first | rfl | (simp [prO, hres]; rfl)), ?_, ?_, ?_, ?_⟩, ?_⟩
  all_goals try simp [prO, hres]
 have h4 := accept_no hp2 hs (by omega) e4
 refine rgS fun K hK => ?_
 simp (disch := omega)
 (repeat' apply And.intro)
 all_goals (try omega)
 refine call_rule (caps := []) (h4) [0] [0] 1 rfl rfl rfl rfl (by kernel_rfl) (by simp) ?_ ?_ (by simp) rfl (by simp) ⟨.inr ⟨rfl, 0, _, _, _, _, _, rfl, rfl, (by first | rfl | simp [prO]), rfl, (by first | rfl | simp [prO])⟩, trivial⟩ (by simp [prO]) ?_
 ·simp [prO]
 ·simp [prO]
 simp (disch := omega) [prO]
 and_intros <;> try first | apply hK | omega | rfl | simp <;> omega
 refine condF (by simp <;> omega) ?_
 refine awp_skip ?_
 show awp _ _ _ _
 refine awp_seq ?_
 by_cases e5 : pkB s (pos + 1 + 1) = 43
 case neg =>
  have h5 := accept_no hp2 hs (by omega) e5
  have hres : expS s pos = (0, false, pos + 1 + 1) := by unfold expS; rw [if_neg e1, if_neg hne2, if_neg hne3, if_neg e4, if_pos e5]
  refine rgS fun K hK => ?_
  simp (disch := omega)
  (repeat' apply And.intro)
  all_goals (try omega)
  refine call_rule (caps := []) (h5) [0] [0] 1 rfl rfl rfl rfl (by kernel_rfl) (by simp) ?_ ?_ (by simp) rfl (by simp) ⟨.inr ⟨rfl, 0, _, _, _, _, _, rfl, rfl, (by first | rfl | simp [prO]), rfl, (by first | rfl | simp [prO])⟩, trivial⟩ (by simp [prO]) ?_
  ·simp [prO]
  ·simp [prO]
  simp (disch := omega) [prO]
  and_intros <;> try first | apply hK | omega | rfl | simp <;> omega
  refine condT (by simp <;> omega) ?_
  refine rgS fun K hK => ?_
  simp (disch := omega)
  and_intros <;> try first | apply hK | omega | rfl | simp <;> omega
  refine awp_ret ?_
  refine ⟨⟨.inr rfl, _, [(0, some 0)], (by first | rfl | (simp [prO, hres]; rfl)), ?_, ?_, ?_, ?_⟩, ?_⟩
  all_goals try simp [prO, hres]
 obtain ⟨hp3, h5⟩ := accept_yes hp2 hs (by omega) e5
 have hne5 : ¬ pkB s (pos + 1 + 1) ≠ 43 := by simpa using e5
 have hpk := peek_fn s (pos + 1 + 1 + 1) hp3 hs
 by_cases e6 : pkB s (pos + 1 + 1 + 1) < 49
 ·have hres : expS s pos = (0, false, pos + 1 + 1 + 1) := by unfold expS; rw [if_neg e1, if_neg hne2, if_neg hne3, if_neg e4, if_neg hne5, if_pos (.inl e6)]
  refine rgS fun K hK => ?_
  simp (disch := omega)
  (repeat' apply And.intro)
  all_goals (try omega)
  refine call_rule (caps := []) (h5) [0] [0] 1 rfl rfl rfl rfl (by kernel_rfl) (by simp) ?_ ?_ (by simp) rfl (by simp) ⟨.inr ⟨rfl, 0, _, _, _, _, _, rfl, rfl, (by first | rfl | simp [prO]), rfl, (by first | rfl | simp [prO])⟩, trivial⟩ (by simp [prO]) ?_
  ·simp [prO]
  ·simp [prO]
  simp (disch := omega) [prO]
  (repeat' apply And.intro)
  all_goals (try omega)
  refine call_rule (caps := []) (hpk) [0] [0] 1 (by simp [prO]) rfl rfl rfl (by kernel_rfl) (by simp) ?_ ?_ (by simp) rfl (by simp) ⟨.inr ⟨rfl, 0, _, _, _, _, _, rfl, rfl, (by first | rfl | simp [prO]), rfl, (by first | rfl | simp [prO])⟩, trivial⟩ (by simp [prO]) ?_
  ·simp [prO]
  ·simp [prO]
  simp (disch := omega) [prO, e6]
  and_intros <;> try first | apply hK | omega | rfl | simp <;> omega
  refine condT (by simp [e6] <;> omega) ?_
  refine rgS fun K hK => ?_
  simp (disch := omega)
  and_intros <;> try first | apply hK | omega | rfl | simp <;> omega
  refine awp_ret ?_
  refine ⟨⟨.inr rfl, _, [(0, some 0)], (by first | rfl | (simp [prO, hres]; rfl)), ?_, ?_, ?_, ?_⟩, ?_⟩
  all_goals try simp [prO, hres]
 by_cases e7 : 57 < pkB s (pos + 1 + 1 + 1)
 ·have hres : expS s pos = (0, false, pos + 1 + 1 + 1) := by unfold expS; rw [if_neg e1, if_neg hne2, if_neg hne3, if_neg e4, if_neg hne5, if_pos (.inr e7)]
  refine rgS fun K hK => ?_
  simp (disch := omega)
  (repeat' apply And.intro)
  all_goals (try omega)
  refine call_rule (caps := []) (h5) [0] [0] 1 rfl rfl rfl rfl (by kernel_rfl) (by simp) ?_ ?_ (by simp) rfl (by simp) ⟨.inr ⟨rfl, 0, _, _, _, _, _, rfl, rfl, (by first | rfl | simp [prO]), rfl, (by first | rfl | simp [prO])⟩, trivial⟩ (by simp [prO]) ?_
  ·simp [prO]
  ·simp [prO]
  simp (disch := omega) [prO]
  (repeat' apply And.intro)
  all_goals (try omega)
  refine call_rule (caps := []) (hpk) [0] [0] 1 (by simp [prO]) rfl rfl rfl (by kernel_rfl) (by simp) ?_ ?_ (by simp) rfl (by simp) ⟨.inr ⟨rfl, 0, _, _, _, _, _, rfl, rfl, (by first | rfl | simp [prO]), rfl, (by first | rfl | simp [prO])⟩, trivial⟩ (by simp [prO]) ?_
  ·simp [prO]
  ·simp [prO]
  simp (disch := omega) [prO, e6]
  (repeat' apply And.intro)
  all_goals (try omega)
  refine call_rule (caps := []) (hpk) [0] [0] 1 (by simp [prO, e6]) rfl rfl rfl (by kernel_rfl) (by simp) ?_ ?_ (by simp) rfl (by simp) ⟨.inr ⟨rfl, 0, _, _, _, _, _, rfl, rfl, (by first | rfl | simp [prO, e6]), rfl, (by first | rfl | simp [prO, e6])⟩, trivial⟩ (by simp [prO, e6]) ?_
  ·simp [prO, e6]
  ·simp [prO, e6]
  simp (disch := omega) [prO, e6, e7]
  and_intros <;> try first | apply hK | omega | rfl | simp <;> omega
  refine condT (by simp [e6, e7] <;> omega) ?_
  refine rgS fun K hK => ?_
  simp (disch := omega)
  and_intros <;> try first | apply hK | omega | rfl | simp <;> omega
  refine awp_ret ?_
  refine ⟨⟨.inr rfl, _, [(0, some 0)], (by first | rfl | (simp [prO, hres]; rfl)), ?_, ?_, ?_, ?_⟩, ?_⟩
  all_goals try simp [prO, hres]
 have hne6 : ¬ (pkB s (pos + 1 + 1 + 1) < 49 ∨ 57 < pkB s (pos + 1 + 1 + 1)) := by omega
 have hlt : pos + 1 + 1 + 1 < s.size := pkB_lt hp3 (b := pkB s (pos + 1 + 1 + 1)) (by omega) rfl
 obtain ⟨dd, hdd⟩ : ∃ dd, dd = pkB s (pos + 1 + 1 + 1) := ⟨_, rfl⟩
 refine rgS fun K hK => ?_
 simp (disch := omega)
 (repeat' apply And.intro)
 all_goals (try omega)
 refine call_rule (caps := []) (h5) [0] [0] 1 rfl rfl rfl rfl (by kernel_rfl) (by simp) ?_ ?_ (by simp) rfl (by simp) ⟨.inr ⟨rfl, 0, _, _, _, _, _, rfl, rfl, (by first | rfl | simp [prO]), rfl, (by first | rfl | simp [prO])⟩, trivial⟩ (by simp [prO]) ?_
 ·simp [prO]
 ·simp [prO]
 simp (disch := omega) [prO]
 (repeat' apply And.intro)
 all_goals (try omega)
 refine call_rule (caps := []) (hpk) [0] [0] 1 (by simp [prO]) rfl rfl rfl (by kernel_rfl) (by simp) ?_ ?_ (by simp) rfl (by simp) ⟨.inr ⟨rfl, 0, _, _, _, _, _, rfl, rfl, (by first | rfl | simp [prO]), rfl, (by first | rfl | simp [prO])⟩, trivial⟩ (by simp [prO]) ?_
 ·simp [prO]
 ·simp [prO]
 simp (disch := omega) [prO, e6]
 (repeat' apply And.intro)
 all_goals (try omega)
 refine call_rule (caps := []) (hpk) [0] [0] 1 (by simp [prO, e6]) rfl rfl rfl (by kernel_rfl) (by simp) ?_ ?_ (by simp) rfl (by simp) ⟨.inr ⟨rfl, 0, _, _, _, _, _, rfl, rfl, (by first | rfl | simp [prO, e6]), rfl, (by first | rfl | simp [prO, e6])⟩, trivial⟩ (by simp [prO, e6]) ?_
 ·simp [prO, e6]
 ·simp [prO, e6]
 simp (disch := omega) [prO, e6, e7]
 and_intros <;> try first | apply hK | omega | rfl | simp <;> omega
 refine condF (by simp [e6, e7] <;> omega) ?_
 refine awp_skip ?_
 show awp _ _ _ _
 refine rgS fun K hK => ?_
 simp (disch := omega)
 (repeat' apply And.intro)
 all_goals (try omega)
 refine call_rule (caps := []) (hpk) [0] [0] 1 rfl rfl rfl rfl (by kernel_rfl) (by simp) ?_ ?_ (by simp) rfl (by simp) ⟨.inr ⟨rfl, 0, _, _, _, _, _, rfl, rfl, (by first | rfl | simp [prO]), rfl, (by first | rfl | simp [prO])⟩, trivial⟩ (by simp [prO]) ?_
 ·simp [prO]
 ·simp [prO]
 simp (disch := omega) [prO]
 and_intros <;> try first | apply hK | omega | rfl | simp <;> omega
 refine rgS fun K hK => ?_
 simp (disch := omega) [prO]
 (repeat' first | apply hK | apply And.intro) <;> try first | omega | rfl | (simp <;> omega)
 have hp4 : pos + 1 + 1 + 1 + 1 ≤ s.size := hlt
 by_cases e8 : pkB s (pos + 1 + 1 + 1 + 1) = 41
 ·obtain ⟨hp5, h8⟩ := accept_yes hp4 hs (by omega) e8
  have hres : expS s pos = (pkB s (pos + 1 + 1 + 1) - 48, true, pos + 1 + 1 + 1 + 1 + 1) := by unfold expS; rw [if_neg e1, if_neg hne2, if_neg hne3, if_neg e4, if_neg hne5, if_neg hne6, if_neg (by simpa using e8)]
  refine rgS fun K hK => ?_
  simp (disch := omega)
  (repeat' apply And.intro)
  all_goals (try omega)
  refine call_rule (caps := []) (h8) [0] [0] 1 rfl rfl rfl rfl (by kernel_rfl) (by simp) ?_ ?_ (by simp) rfl (by simp) ⟨.inr ⟨rfl, 0, _, _, _, _, _, rfl, rfl, (by first | rfl | simp [prO]), rfl, (by first | rfl | simp [prO])⟩, trivial⟩ (by simp [prO]) ?_
  ·simp [prO]
  ·simp [prO]
  simp (disch := omega) [prO]
  and_intros <;> try first | apply hK | omega | rfl | simp <;> omega
  refine awp_ret ?_
  refine ⟨⟨.inr rfl, _, [(0, some 0)], (by first | rfl | (simp [prO, hres]; rfl)), ?_, ?_, ?_, ?_⟩, ?_⟩
  all_goals try simp [prO, hres]
 ·have h8 := accept_no hp4 hs (by omega) e8
  have hres : expS s pos = (pkB s (pos + 1 + 1 + 1) - 48, false, pos + 1 + 1 + 1 + 1) := by unfold expS; rw [if_neg e1, if_neg hne2, if_neg hne3, if_neg e4, if_neg hne5, if_neg hne6, if_pos e8]
  refine rgS fun K hK => ?_
  simp (disch := omega)
  (repeat' apply And.intro)
  all_goals (try omega)
  refine call_rule (caps := []) (h8) [0] [0] 1 rfl rfl rfl rfl (by kernel_rfl) (by simp) ?_ ?_ (by simp) rfl (by simp) ⟨.inr ⟨rfl, 0, _, _, _, _, _, rfl, rfl, (by first | rfl | simp [prO]), rfl, (by first | rfl | simp [prO])⟩, trivial⟩ (by simp [prO]) ?_
  ·simp [prO]
  ·simp [prO]
  simp (disch := omega) [prO]
  and_intros <;> try first | apply hK | omega | rfl | simp <;> omega
  refine awp_ret ?_
  refine ⟨⟨.inr rfl, _, [(0, some 0)], (by first | rfl | (simp [prO, hres]; rfl)), ?_, ?_, ?_, ?_⟩, ?_⟩
  all_goals try simp [prO, hres]

theorem expS_le {s : ByteArray} {pos : Nat} (hp : pos ≤ s.size) : (expS s pos).2.2 ≤ s.size ∧ pos ≤ (expS s pos).2.2 := by
 unfold expS
 by_cases e1 : pkB s pos = 119
 ·have := pkB_lt hp (by omega) e1
  rw [if_pos e1]; exact ⟨by simp only; omega, by simp only; omega⟩
 rw [if_neg e1]
 by_cases e2 : pkB s pos ≠ 40
 ·rw [if_pos e2]; exact ⟨hp, Nat.le_refl _⟩
 rw [if_neg e2]
 have h1 := pkB_lt (b := 40) hp (by omega) (by omega)
 by_cases e3 : pkB s (pos + 1) ≠ 119
 ·rw [if_pos e3]; exact ⟨by simp only; omega, by simp only; omega⟩
 rw [if_neg e3]
 have h2 := pkB_lt (b := 119) (show pos + 1 ≤ s.size by omega) (by omega) (by omega)
 by_cases e4 : pkB s (pos + 1 + 1) = 45
 ·rw [if_pos e4]
  have h3 := pkB_lt (b := 45) (show pos + 1 + 1 ≤ s.size by omega) (by omega) e4
  by_cases e5 : pkB s (pos + 1 + 1 + 1) ≠ 49
  ·rw [if_pos e5]; exact ⟨by simp only; omega, by simp only; omega⟩
  rw [if_neg e5]
  have h4 := pkB_lt (b := 49) (show pos + 1 + 1 + 1 ≤ s.size by omega) (by omega) (by omega)
  by_cases e6 : pkB s (pos + 1 + 1 + 1 + 1) ≠ 41
  ·rw [if_pos e6]; exact ⟨by simp only; omega, by simp only; omega⟩
  rw [if_neg e6]
  have h5 := pkB_lt (b := 41) (show pos + 1 + 1 + 1 + 1 ≤ s.size by omega) (by omega) (by omega)
  exact ⟨by simp only; omega, by simp only; omega⟩
 rw [if_neg e4]
 by_cases e5 : pkB s (pos + 1 + 1) ≠ 43
 ·rw [if_pos e5]; exact ⟨by simp only; omega, by simp only; omega⟩
 rw [if_neg e5]
 have h3 := pkB_lt (b := 43) (show pos + 1 + 1 ≤ s.size by omega) (by omega) (by omega)
 by_cases e6 : pkB s (pos + 1 + 1 + 1) < 49 ∨ 57 < pkB s (pos + 1 + 1 + 1)
 ·rw [if_pos e6]; exact ⟨by simp only; omega, by simp only; omega⟩
 rw [if_neg e6]
 have h4 := pkB_lt (b := pkB s (pos + 1 + 1 + 1)) (show pos + 1 + 1 + 1 ≤ s.size by omega) (by omega) rfl
 by_cases e7 : pkB s (pos + 1 + 1 + 1 + 1) ≠ 41
 ·rw [if_pos e7]; exact ⟨by simp only; omega, by simp only; omega⟩
 rw [if_neg e7]
 have h5 := pkB_lt (b := 41) (show pos + 1 + 1 + 1 + 1 ≤ s.size by omega) (by omega) (by omega)
 exact ⟨by simp only; omega, by simp only; omega⟩

def Tm.zero : Tm := .mk 0 0 []
abbrev PR := Tm × Bool × Nat
def atomP (P : Nat → PR) (s : ByteArray) (pos : Nat) : PR :=
 if begB (pkB s pos) = false then (.zero, false, pos)
 else if pkB s pos = 49 then (.mk 1 0 [], true, pos + 1)
 else if pkB s pos = 40 then
  (
   if (P (pos + 1)).2.1 = false then ((P (pos + 1)).1, false, (P (pos + 1)).2.2)
   else if pkB s (P (pos + 1)).2.2 = 41 then ((P (pos + 1)).1, true, (P (pos + 1)).2.2 + 1) else ((P (pos + 1)).1, false, (P (pos + 1)).2.2))
 else (.mk 2 (varI (pkB s pos)) [], true, pos + 1)
def expsP (s : ByteArray) : Nat → Nat → Tm → PR
 | 0, pos, t => (t, true, pos)
 | f + 1, pos, t =>
  if pkB s pos = 94 then
   (
    if (expS s (pos + 1)).2.1 = false then (.zero, false, (expS s (pos + 1)).2.2)
    else expsP s f (skipS s (expS s (pos + 1)).2.2) (.mk 4 (expS s (pos + 1)).1 [t]))
  else (t, true, pos)
def factorP (P : Nat → PR) (s : ByteArray) (pos : Nat) : PR :=
 if (atomP P s pos).2.1 = false then (.zero, false, (atomP P s pos).2.2)
 else expsP s (s.size + 1 - skipS s (atomP P s pos).2.2) (skipS s (atomP P s pos).2.2) (atomP P s pos).1
def factsP (P : Nat → PR) (s : ByteArray) : Nat → Nat → List Tm → PR
 | 0, pos, acc => (.zero, false, pos)
 | f + 1, pos, acc =>
  if acc.length = 0 ∨ begB (pkB s pos) = true then
   (
    if (factorP P s pos).2.1 = false then (.zero, false, (factorP P s pos).2.2)
    else factsP P s f (skipS s (factorP P s pos).2.2) (acc ++ [(factorP P s pos).1]))
  else (if acc.length = 1 then acc.getD 0 .zero else .mk 3 0 acc, true, pos)
def termP (s : ByteArray) : Nat → Nat → PR
 | 0, pos => (.zero, false, pos)
 | f + 1, pos => factsP (termP s f) s (s.size + 2 - skipS s pos) (skipS s pos) []

set_option maxRecDepth 100000
set_option maxHeartbeats 32000000
attribute [local simp] ints rows scal wr64 wr8
set_option linter.unusedSimpArgs false

theorem pkB_rng (s : ByteArray) (pos : Nat) : 0 ≤ pkB s pos ∧ pkB s pos < 256 := by
 unfold pkB
 by_cases h : pos = s.size
 ·rw [if_pos h]; omega
 ·rw [if_neg h]
  unfold byteAt
  cases s[pos]? with
  | none => simp
  | some b => simp only [Option.map_some, Option.getD_some]; have := b.toNat_lt; omega
def tmL (o n : Int) : AV := .agg [.t 2 (.int .i64 o), .t 2 (.int .i64 n), .t 2 (.sl 0 [])]
theorem VR.leaf {E : Ev} {v : Value} {o n : Int} {r : AV} (h : VR E v (.tup [tmL o n, r])) : VR E v (.tup [tmV 2 (.mk o n []), r]) := by
 cases h with
 | tup vs cs hn hr =>
  refine .tup vs _ hn (fun i c hi => ?_)
  match i, hi with
  | 0, hi =>
   injection hi with hi
   subst hi
   have h0 := hr 0 _ rfl
   unfold tmL at h0
   generalize vs.getD 0 undef = u at h0 ⊢
   cases h0 with
   | agg us cs hn' h1 hr' =>
    refine .agg us _ hn' h1 (fun j d hj => ?_)
    match j, hj with
    | 0, hj => exact hr' 0 _ hj
    | 1, hj => exact hr' 1 _ hj
    | 2, hj =>
     injection hj with hj
     subst hj
     rw [nil_val (hr' 2 _ rfl)]
     exact .t _ _ _ (.nil 3)
    | j + 3, hj => simp [Tm.args, Tm.op] at hj
  | i + 1, hi => exact hr (i + 1) c hi
theorem FnS.res' {P : Program} {f : FuncId} {args : List AV} {H H' : List AObj} {r r' : AV} (h : FnS P f args H r H') (hr : ∀ E v, VR E v r → VR E v r') : FnS P f args H r' H' := fun w V ob vs hm hn hv => (h w V ob vs hm hn hv).mono fun e w' ⟨v, ob', h1, h2, h3, h4⟩ => ⟨v, ob', h1, h2, hr _ _ h3, h4⟩
theorem tsTerm (h : 29 < Tryz.prog.types.size) : (Tryz.prog.types[29]'h).size = 3 := by rfl
def atomR (P : Nat → PR) (s : ByteArray) (pos : Nat) : AV :=
 if begB (pkB s pos) = false then tmL 0 0
 else if pkB s pos = 49 then tmL 1 0
 else if pkB s pos = 40 then tmV 2 (P (pos + 1)).1
 else tmL 2 (varI (pkB s pos))
theorem atom_fn' (P : Nat → PR) (s : ByteArray) (pos : Nat) (hp : pos ≤ s.size) (hs : s.size ≤ 1000000)
  (hP : pos + 1 ≤ s.size → (P (pos + 1)).2.2 ≤ s.size ∧ FnS Tryz.prog 75 [.ptr 0 0 2] [prO s (pos + 1)] (.tup [tmV 2 (P (pos + 1)).1, .t 2 (.bool (P (pos + 1)).2.1)]) [prO s (P (pos + 1)).2.2]) :
  FnS Tryz.prog 120 [.ptr 0 0 2] [prO s pos] (.tup [atomR P s pos, .t 2 (.bool (atomP P s pos).2.1)]) [prO s (atomP P s pos).2.2] := by
 have h1 := peek_fn s pos hp hs
 have h2 := begins_fn (pkB_rng s pos).1 (pkB_rng s pos).2
 refine fn_intro Tryz.func120 rfl (by simp [Tryz.f120]) ?_
 rw [show Tryz.f120.ntmps = 40 from rfl, show Tryz.f120.results = #[.cell 2 29, .tmp 3] from rfl]
 refine rgS fun K hK => ?_
 simp (disch := omega)
 and_intros <;> try first | apply hK | omega | rfl | simp <;> omega
 refine rgS fun K hK => ?_
 simp (disch := omega)
 (repeat' apply And.intro)
 all_goals (try omega)
 refine call_rule (caps := []) (h1) [0] [0] 1 rfl rfl rfl rfl (by kernel_rfl) (by simp) ?_ ?_ (by simp) rfl (by simp) ⟨.inr ⟨rfl, 0, _, _, _, _, _, rfl, rfl, (by first | rfl | simp [prO]), rfl, (by first | rfl | simp [prO])⟩, trivial⟩ (by simp [prO]) ?_
 ·simp [prO]
 ·simp [prO]
 simp (disch := omega) [prO]
 and_intros <;> try first | apply hK | omega | rfl | simp <;> omega
 refine awp_seq ?_
 refine rgS fun K hK => ?_
 simp (disch := omega)
 (repeat' apply And.intro)
 all_goals (try omega)
 refine callO (h2) rfl rfl rfl rfl (by kernel_rfl) (by simp) ?_ ?_
 ·simp
 simp (disch := omega)
 (repeat' first | apply hK | apply And.intro) <;> try first | omega | rfl | (simp <;> omega)
 by_cases e1 : begB (pkB s pos) = false
 ·have hres : atomP P s pos = (.zero, false, pos) := by unfold atomP; rw [if_pos e1]
  refine condT (by simp [e1] <;> omega) ?_
  refine rgS fun K hK => ?_
  simp (disch := omega)
  and_intros <;> try first | apply hK | omega | rfl | simp <;> omega
  refine awp_ret ?_
  have hr : atomR P s pos = tmL 0 0 := by unfold atomR; rw [if_pos e1]
  rw [hr, hres]
  unfold tmL
  refine ⟨⟨.inr rfl, _, [(0, some 0)], (by first | rfl | (simp [prO, tsTerm]; rfl)), ?_, ?_, ?_, ?_⟩, ?_⟩
  all_goals try simp [prO, tsTerm]
 have e1' : begB (pkB s pos) = true := by simpa using e1
 have hlt : pos + 1 ≤ s.size := by
  refine pkB_lt (b := pkB s pos) hp (fun h0 => ?_) rfl
  rw [h0] at e1'
  exact absurd e1' (by decide)
 refine condF (by simp [e1'] <;> omega) ?_
 refine awp_skip ?_
 show awp _ _ _ _
 refine rgS fun K hK => ?_
 simp (disch := omega) [prO]
 and_intros <;> try first | apply hK | omega | rfl | simp <;> omega
 refine awp_seq ?_
 refine rgS fun K hK => ?_
 simp (disch := omega)
 and_intros <;> try first | apply hK | omega | rfl | simp <;> omega
 refine awp_block ?_
 refine rgS fun K hK => ?_
 simp (disch := omega)
 (repeat' first | apply hK | apply And.intro) <;> try first | omega | rfl | (simp <;> omega)
 by_cases e2 : pkB s pos = 49
 ·have hres : atomP P s pos = (.mk 1 0 [], true, pos + 1) := by unfold atomP; rw [if_neg e1, if_pos e2]
  have hr : atomR P s pos = tmL 1 0 := by unfold atomR; rw [if_neg e1, if_pos e2]
  refine condT (by simp [e2] <;> omega) ?_
  refine rgS fun K hK => ?_
  simp (disch := omega)
  and_intros <;> try first | apply hK | omega | rfl | simp <;> omega
  refine awp_ret ?_
  rw [hr, hres]
  unfold tmL
  refine ⟨⟨.inr rfl, _, [(0, some 0)], (by first | rfl | (simp [prO, tsTerm]; rfl)), ?_, ?_, ?_, ?_⟩, ?_⟩
  all_goals try simp [prO, tsTerm]
 refine condF (by simp [e2] <;> omega) ?_
 refine rgS fun K hK => ?_
 simp (disch := omega)
 (repeat' first | apply hK | apply And.intro) <;> try first | omega | rfl | (simp <;> omega)
 by_cases e3 : pkB s pos = 40
 case neg =>
  have h4 := strIndex_fn namesB (pkB s pos)
  rw [varI_idx (pkB_rng s pos).1 (pkB_rng s pos).2] at h4
  unfold namesB at h4
  have hres : atomP P s pos = (.mk 2 (varI (pkB s pos)) [], true, pos + 1) := by unfold atomP; rw [if_neg e1, if_neg e2, if_neg e3]
  have hr : atomR P s pos = tmL 2 (varI (pkB s pos)) := by unfold atomR; rw [if_neg e1, if_neg e2, if_neg e3]
  refine condF (by simp [e3] <;> omega) ?_
  refine awp_skip ?_
  show awp _ _ _ _
  refine rgS fun K hK => ?_
  simp (disch := omega)
  (repeat' apply And.intro)
  all_goals (try omega)
  refine callO (h4) rfl rfl rfl rfl (by kernel_rfl) (by simp) ?_ ?_
  ·simp
  simp (disch := omega)
  and_intros <;> try first | apply hK | omega | rfl | simp <;> omega
  refine awp_ret ?_
  rw [hr, hres]
  unfold tmL
  refine ⟨⟨.inr rfl, _, [(0, some 0)], (by first | rfl | (simp [prO, tsTerm]; rfl)), ?_, ?_, ?_, ?_⟩, ?_⟩
  all_goals try simp [prO, tsTerm]
 obtain ⟨hle, h5⟩ := hP hlt
 have hr : atomR P s pos = tmV 2 (P (pos + 1)).1 := by unfold atomR; rw [if_neg e1, if_neg e2, if_pos e3]
 have hat : atomP P s pos = (if (P (pos + 1)).2.1 = false then ((P (pos + 1)).1, false, (P (pos + 1)).2.2) else if pkB s (P (pos + 1)).2.2 = 41 then ((P (pos + 1)).1, true, (P (pos + 1)).2.2 + 1) else ((P (pos + 1)).1, false, (P (pos + 1)).2.2)) := by
  unfold atomP; rw [if_neg e1, if_neg e2, if_pos e3]
 rw [hr, hat]
 generalize P (pos + 1) = q at h5 hle ⊢
 obtain ⟨u, b, pe⟩ := q
 simp only at h5 hle ⊢
 refine condT (by simp [e3] <;> omega) ?_
 refine rgS fun K hK => ?_
 simp (disch := omega)
 (repeat' apply And.intro)
 all_goals (try omega)
 refine call_rule (caps := []) (h5) [0] [0] 1 rfl rfl rfl rfl (by kernel_rfl) (by simp) ?_ ?_ (by simp) rfl (by simp) ⟨.inr ⟨rfl, 0, _, _, _, _, _, rfl, rfl, (by first | rfl | simp [prO]), rfl, (by first | rfl | simp [prO])⟩, trivial⟩ (by simp [prO]) ?_
 ·simp [prO]
 ·simp [prO]
 simp (disch := omega) [prO, tmV, tsTerm]
 (repeat' first | apply hK | apply And.intro) <;> try first | omega | rfl | (simp <;> omega)
 cases b with
 | false =>
  refine awp_seqD (by kernel_rfl) (fun K hK => ?_)
  simp (disch := omega) [prO, tmV, tsTerm]
  and_intros <;> try first | apply hK | (show chkD _ _ = true; kernel_rfl) | omega | rfl | simp <;> omega
  refine awp_ret ?_
  rw [if_pos rfl]
  refine ⟨⟨.inr rfl, _, [(0, some 0)], (by first | rfl | (simp [prO, tmV, tsTerm]; rfl)), ?_, ?_, ?_, ?_⟩, ?_⟩
  all_goals try simp [prO, tmV, tsTerm]
 | true =>
  by_cases e4 : pkB s pe = 41
  ·obtain ⟨-, h6⟩ := accept_yes hle hs (by omega) e4
   refine awp_seqD (by kernel_rfl) (fun K hK => ?_)
   simp (disch := omega) [prO, tmV, tsTerm]
   (repeat' apply And.intro)
   all_goals (try omega)
   refine call_ruleD (caps := []) (h6) [0] [0] 1 (by simp [prO]) rfl rfl rfl (by kernel_rfl) (by simp) ?_ ?_ (by simp) rfl (by simp) ⟨.inr ⟨rfl, 0, _, _, _, _, _, rfl, rfl, (by first | rfl | simp [prO]), rfl, (by first | rfl | simp [prO])⟩, trivial⟩ (by simp [prO]) ?_
   ·simp [prO]
   ·simp [prO]
   simp (disch := omega) [prO, tmV, tsTerm]
   and_intros <;> try first | apply hK | (show chkD _ _ = true; kernel_rfl) | omega | rfl | simp <;> omega
   refine awp_ret ?_
   rw [if_neg (by simp), if_pos e4]
   refine ⟨⟨.inr rfl, _, [(0, some 0)], (by first | rfl | (simp [prO, tmV, tsTerm]; rfl)), ?_, ?_, ?_, ?_⟩, ?_⟩
   all_goals try simp [prO, tmV, tsTerm]
  ·have h6 := accept_no hle hs (by omega) e4
   refine awp_seqD (by kernel_rfl) (fun K hK => ?_)
   simp (disch := omega) [prO, tmV, tsTerm]
   (repeat' apply And.intro)
   all_goals (try omega)
   refine call_ruleD (caps := []) (h6) [0] [0] 1 (by simp [prO]) rfl rfl rfl (by kernel_rfl) (by simp) ?_ ?_ (by simp) rfl (by simp) ⟨.inr ⟨rfl, 0, _, _, _, _, _, rfl, rfl, (by first | rfl | simp [prO]), rfl, (by first | rfl | simp [prO])⟩, trivial⟩ (by simp [prO]) ?_
   ·simp [prO]
   ·simp [prO]
   simp (disch := omega) [prO, tmV, tsTerm]
   and_intros <;> try first | apply hK | (show chkD _ _ = true; kernel_rfl) | omega | rfl | simp <;> omega
   refine awp_ret ?_
   rw [if_neg (by simp), if_neg e4]
   refine ⟨⟨.inr rfl, _, [(0, some 0)], (by first | rfl | (simp [prO, tmV, tsTerm]; rfl)), ?_, ?_, ?_, ?_⟩, ?_⟩
   all_goals try simp [prO, tmV, tsTerm]
theorem atom_fn (P : Nat → PR) (s : ByteArray) (pos : Nat) (hp : pos ≤ s.size) (hs : s.size ≤ 1000000)
  (hP : pos + 1 ≤ s.size → (P (pos + 1)).2.2 ≤ s.size ∧ FnS Tryz.prog 75 [.ptr 0 0 2] [prO s (pos + 1)] (.tup [tmV 2 (P (pos + 1)).1, .t 2 (.bool (P (pos + 1)).2.1)]) [prO s (P (pos + 1)).2.2]) :
  FnS Tryz.prog 120 [.ptr 0 0 2] [prO s pos] (.tup [tmV 2 (atomP P s pos).1, .t 2 (.bool (atomP P s pos).2.1)]) [prO s (atomP P s pos).2.2] := by
 refine FnS.res' (atom_fn' P s pos hp hs hP) (fun E v h => ?_)
 by_cases e1 : begB (pkB s pos) = false
 ·have hres : atomP P s pos = (.zero, false, pos) := by unfold atomP; rw [if_pos e1]
  have hr : atomR P s pos = tmL 0 0 := by unfold atomR; rw [if_pos e1]
  rw [hr, hres] at h
  rw [hres]
  exact h.leaf
 by_cases e2 : pkB s pos = 49
 ·have hres : atomP P s pos = (.mk 1 0 [], true, pos + 1) := by unfold atomP; rw [if_neg e1, if_pos e2]
  have hr : atomR P s pos = tmL 1 0 := by unfold atomR; rw [if_neg e1, if_pos e2]
  rw [hr, hres] at h
  rw [hres]
  exact h.leaf
 by_cases e3 : pkB s pos = 40
 ·have hr : atomR P s pos = tmV 2 (P (pos + 1)).1 := by unfold atomR; rw [if_neg e1, if_neg e2, if_pos e3]
  have h1 : (atomP P s pos).1 = (P (pos + 1)).1 := by
   unfold atomP
   rw [if_neg e1, if_neg e2, if_pos e3]
   split
   ·rfl
   ·split <;> rfl
  rw [hr] at h
  rw [h1]
  exact h
 ·have hres : atomP P s pos = (.mk 2 (varI (pkB s pos)) [], true, pos + 1) := by unfold atomP; rw [if_neg e1, if_neg e2, if_neg e3]
  have hr : atomR P s pos = tmL 2 (varI (pkB s pos)) := by unfold atomR; rw [if_neg e1, if_neg e2, if_neg e3]
  rw [hr, hres] at h
  rw [hres]
  exact h.leaf
theorem atomP_le {P : Nat → PR} {s : ByteArray} {pos : Nat} (hp : pos ≤ s.size) (hP : pos + 1 ≤ s.size → (P (pos + 1)).2.2 ≤ s.size ∧ pos + 1 ≤ (P (pos + 1)).2.2) : (atomP P s pos).2.2 ≤ s.size ∧ pos ≤ (atomP P s pos).2.2 ∧ ((atomP P s pos).2.1 = true → pos + 1 ≤ (atomP P s pos).2.2) := by
 unfold atomP
 by_cases e1 : begB (pkB s pos) = false
 ·rw [if_pos e1]; exact ⟨hp, Nat.le_refl _, fun h => by cases h⟩
 have hlt : pos + 1 ≤ s.size := by
  refine pkB_lt (b := pkB s pos) hp (fun h0 => ?_) rfl
  rw [h0] at e1
  exact e1 (by decide)
 obtain ⟨h1, h2⟩ := hP hlt
 rw [if_neg e1]
 by_cases e2 : pkB s pos = 49
 ·rw [if_pos e2]; simp only; omega
 rw [if_neg e2]
 by_cases e3 : pkB s pos = 40
 ·rw [if_pos e3]
  by_cases e4 : (P (pos + 1)).2.1 = false
  ·rw [if_pos e4]; exact ⟨h1, by simp only; omega, fun h => by cases h⟩
  rw [if_neg e4]
  by_cases e5 : pkB s (P (pos + 1)).2.2 = 41
  ·have := pkB_lt h1 (by omega) e5
   rw [if_pos e5]; simp only; omega
  ·rw [if_neg e5]; exact ⟨h1, by simp only; omega, fun h => by cases h⟩
 ·rw [if_neg e3]; simp only; omega

set_option maxRecDepth 100000
set_option maxHeartbeats 32000000
attribute [local simp] ints rows scal wr64 wr8
set_option linter.unusedSimpArgs false

def tmO (t : Tm) : AObj := .box 29 [.t 2 (.int .i64 t.op), .t 2 (.int .i64 t.n), .t 2 (.sl 3 (cellsL t.args))]
def zeO : AObj := .box 29 [.t 2 (.int .i64 0), .t 2 (.int .i64 0), .t 2 (.sl 0 [])]
def factorR (P : Nat → PR) (s : ByteArray) (pos : Nat) : AV := if (factorP P s pos).2.1 = false then tmL 0 0 else tmV 2 (factorP P s pos).1
theorem expsP_succ (s : ByteArray) (f pos : Nat) (t : Tm) : expsP s (f + 1) pos t = (if pkB s pos = 94 then
   (
    if (expS s (pos + 1)).2.1 = false then (.zero, false, (expS s (pos + 1)).2.2)
    else expsP s f (skipS s (expS s (pos + 1)).2.2) (.mk 4 (expS s (pos + 1)).1 [t]))
  else (t, true, pos)) := rfl
theorem expsP_fuel {s : ByteArray} : ∀ f g pos t, pos ≤ s.size → s.size - pos < f → s.size - pos < g → expsP s f pos t = expsP s g pos t
 | 0, g, pos, t, hp, hf, hg => by omega
 | f + 1, 0, pos, t, hp, hf, hg => by omega
 | f + 1, g + 1, pos, t, hp, hf, hg => by
  unfold expsP
  by_cases e1 : pkB s pos = 94
  ·have h1 := pkB_lt hp (by omega) e1
   have h2 := expS_le (s := s) (pos := pos + 1) (by omega)
   have h3 := skipS_le h2.1
   rw [if_pos e1, if_pos e1]
   by_cases e2 : (expS s (pos + 1)).2.1 = false
   ·rw [if_pos e2, if_pos e2]
   ·rw [if_neg e2, if_neg e2]
    exact expsP_fuel f g _ _ h3.1 (by omega) (by omega)
  ·rw [if_neg e1, if_neg e1]
theorem factor_fn' (P : Nat → PR) (s : ByteArray) (pos : Nat) (hp : pos ≤ s.size) (hs : s.size ≤ 1000000) (hle : (atomP P s pos).2.2 ≤ s.size)
  (hA : FnS Tryz.prog 120 [.ptr 0 0 2] [prO s pos] (.tup [tmV 2 (atomP P s pos).1, .t 2 (.bool (atomP P s pos).2.1)]) [prO s (atomP P s pos).2.2]) :
  FnS Tryz.prog 107 [.ptr 0 0 2] [prO s pos] (.tup [factorR P s pos, .t 2 (.bool (factorP P s pos).2.1)]) [prO s (factorP P s pos).2.2] := by
 refine fn_intro Tryz.func107 rfl (by simp [Tryz.f107]) ?_
 rw [show Tryz.f107.ntmps = 35 from rfl, show Tryz.f107.results = #[.cell 2 29, .tmp 3] from rfl]
 have hat : factorP P s pos = (if (atomP P s pos).2.1 = false then (.zero, false, (atomP P s pos).2.2) else expsP s (s.size + 1 - skipS s (atomP P s pos).2.2) (skipS s (atomP P s pos).2.2) (atomP P s pos).1) := rfl
 unfold factorR
 rw [hat]
 generalize atomP P s pos = q at hA hle ⊢
 obtain ⟨u, b, pe⟩ := q
 simp only at hA hle ⊢
 refine rgS fun K hK => ?_
 simp (disch := omega)
 and_intros <;> try first | apply hK | omega | rfl | simp <;> omega
 refine rgS fun K hK => ?_
 simp (disch := omega)
 (repeat' apply And.intro)
 all_goals (try omega)
 refine call_rule (caps := []) (hA) [0] [0] 1 rfl rfl rfl rfl (by kernel_rfl) (by simp) ?_ ?_ (by simp) rfl (by simp) ⟨.inr ⟨rfl, 0, _, _, _, _, _, rfl, rfl, (by first | rfl | simp [prO]), rfl, (by first | rfl | simp [prO])⟩, trivial⟩ (by simp [prO]) ?_
 ·simp [prO]
 ·simp [prO]
 simp (disch := omega) [prO, tmV, tsTerm]
 and_intros <;> try first | apply hK | omega | rfl | simp <;> omega
 refine awp_seq ?_
 refine rgS fun K hK => ?_
 simp (disch := omega)
 (repeat' first | apply hK | apply And.intro) <;> try first | omega | rfl | (simp <;> omega)
 cases b with
 | false =>
  refine condT (by simp <;> omega) ?_
  refine rgS fun K hK => ?_
  simp (disch := omega) [tsTerm]
  and_intros <;> try first | apply hK | omega | rfl | simp <;> omega
  refine awp_ret ?_
  rw [if_pos rfl]
  simp only [if_true]
  unfold tmL
  refine ⟨⟨.inr rfl, _, [(0, some 0)], (by first | rfl | (simp [prO, tsTerm]; rfl)), ?_, ?_, ?_, ?_⟩, ?_⟩
  all_goals try simp [prO, tsTerm]
 | true =>
  simp only [Bool.true_eq_false, ↓reduceIte]
  refine condF (by simp <;> omega) ?_
  refine awp_skip ?_
  show awp _ _ _ _
  have h2 := spaces_fn s pe hle hs
  have hsk := (skipS_le hle).1
  generalize skipS s pe = p0 at h2 hsk ⊢
  refine awp_seq ?_
  refine rgS fun K hK => ?_
  simp (disch := omega)
  (repeat' apply And.intro)
  all_goals (try omega)
  refine call_rule (caps := []) (h2) [0] [0] 1 rfl rfl rfl rfl (by kernel_rfl) (by simp) ?_ ?_ (by simp) rfl (by simp) ⟨.inr ⟨rfl, 0, _, _, _, _, _, rfl, rfl, (by first | rfl | simp [prO]), rfl, (by first | rfl | simp [prO])⟩, trivial⟩ (by simp [prO]) ?_
  ·simp [prO]
  ·simp [prO]
  simp (disch := omega) [prO, tmV, tsTerm]
  and_intros <;> try first | apply hK | omega | rfl | simp <;> omega
  refine awp_block ?_
  refine awp_loop (fun q : Nat × Tm => mkS [(0, .ptr 0 0 2), (2, .ptr 1 0 3), (4, .ptr 2 0 3)] [(0, prO s q.1), (1, zeO), (2, tmO q.2)] 3 35 [.ptr 0 0 2]) (fun q => q.1 ≤ s.size ∧ expsP s (s.size + 1 - q.1) q.1 q.2 = expsP s (s.size + 1 - p0) p0 u) (fun q => s.size - q.1) ?_ ?_
  ·refine ⟨(p0, u), ⟨hsk, rfl⟩, ?_⟩
   refine wk_list [(0, some 0), (1, some 1), (2, some 7000001)] rfl ?_ ?_ ?_ ?_
   all_goals try simp [prO, zeO, tmO, tsTerm]
  rintro ⟨q, v⟩ ⟨hq, hex⟩
  simp only at hq hex
  rw [← hex]
  rw [show s.size + 1 - q = (s.size - q) + 1 by omega, expsP_succ s (s.size - q) q v]
  refine awp_seq ?_
  by_cases e1 : pkB s q = 94
  case neg =>
   have h3 := accept_no hq hs (by omega) e1
   rw [if_neg e1]
   refine rgS fun K hK => ?_
   simp (disch := omega) [prO, zeO, tmO]
   (repeat' apply And.intro)
   all_goals (try omega)
   refine call_rule (caps := []) (h3) [0] [0] 1 rfl rfl rfl rfl (by kernel_rfl) (by simp) ?_ ?_ (by simp) rfl (by simp) ⟨.inr ⟨rfl, 0, _, _, _, _, _, rfl, rfl, (by first | rfl | simp [prO]), rfl, (by first | rfl | simp [prO])⟩, trivial⟩ (by simp [prO]) ?_
   ·simp [prO]
   ·simp [prO]
   simp (disch := omega) [prO, zeO, tmO]
   and_intros <;> try first | apply hK | omega | rfl | simp <;> omega
   refine condF (by simp <;> omega) ?_
   refine awp_exit ?_
   show awp _ _ _ _
   refine rgS fun K hK => ?_
   simp (disch := omega) [prO, zeO, tmO, tsTerm]
   and_intros <;> try first | apply hK | omega | rfl | simp <;> omega
   refine awp_ret ?_
   simp only [Bool.true_eq_false, ↓reduceIte]
   refine ⟨⟨.inr rfl, _, [(0, some 0)], (by first | rfl | (simp [prO, zeO, tmO, tsTerm, tmV]; rfl)), ?_, ?_, ?_, ?_⟩, ?_⟩
   all_goals try simp [prO, zeO, tmO, tsTerm, tmV]
  obtain ⟨hp1, h3⟩ := accept_yes hq hs (by omega) e1
  have h4 := exponent_fn s (q + 1) hp1 hs
  have hl4 := expS_le hp1
  rw [if_pos e1]
  generalize expS s (q + 1) = x at h4 hl4 ⊢
  obtain ⟨n, b, pe'⟩ := x
  simp only at h4 hl4 ⊢
  refine rgS fun K hK => ?_
  simp (disch := omega) [prO, zeO, tmO]
  (repeat' apply And.intro)
  all_goals (try omega)
  refine call_rule (caps := []) (h3) [0] [0] 1 rfl rfl rfl rfl (by kernel_rfl) (by simp) ?_ ?_ (by simp) rfl (by simp) ⟨.inr ⟨rfl, 0, _, _, _, _, _, rfl, rfl, (by first | rfl | simp [prO]), rfl, (by first | rfl | simp [prO])⟩, trivial⟩ (by simp [prO]) ?_
  ·simp [prO]
  ·simp [prO]
  simp (disch := omega) [prO, zeO, tmO]
  and_intros <;> try first | apply hK | omega | rfl | simp <;> omega
  refine condT (by simp <;> omega) ?_
  refine awp_skip ?_
  show awp _ _ _ _
  refine awp_seq ?_
  refine awp_block ?_
  refine rgS fun K hK => ?_
  simp (disch := omega) [prO, zeO, tmO]
  (repeat' apply And.intro)
  all_goals (try omega)
  refine call_rule (caps := []) (h4) [0] [0] 1 rfl rfl rfl rfl (by kernel_rfl) (by simp) ?_ ?_ (by simp) rfl (by simp) ⟨.inr ⟨rfl, 0, _, _, _, _, _, rfl, rfl, (by first | rfl | simp [prO]), rfl, (by first | rfl | simp [prO])⟩, trivial⟩ (by simp [prO]) ?_
  ·simp [prO]
  ·simp [prO]
  simp (disch := omega) [prO, zeO, tmO]
  and_intros <;> try first | apply hK | omega | rfl | simp <;> omega
  refine awp_seq ?_
  refine rgS fun K hK => ?_
  simp (disch := omega) [prO, zeO, tmO]
  (repeat' first | apply hK | apply And.intro) <;> try first | omega | rfl | (simp <;> omega)
  cases b with
  | false =>
   refine condT (by simp <;> omega) ?_
   refine rgS fun K hK => ?_
   simp (disch := omega) [prO, zeO, tmO, tsTerm]
   and_intros <;> try first | apply hK | omega | rfl | simp <;> omega
   refine awp_ret ?_
   simp only [↓reduceIte]
   unfold tmL
   refine ⟨⟨.inr rfl, _, [(0, some 0)], (by first | rfl | (simp [prO, zeO, tmO, tsTerm, tmV]; rfl)), ?_, ?_, ?_, ?_⟩, ?_⟩
   all_goals try simp [prO, zeO, tmO, tsTerm, tmV]
  | true =>
   have h5 := spaces_fn s pe' hl4.1 hs
   have hs5 := skipS_le hl4.1
   refine condF (by simp <;> omega) ?_
   refine awp_skip ?_
   show awp _ _ _ _
   refine rgL fun K hK => ?_
   simp (disch := omega) [prO, zeO, tmO, tsTerm]
   and_intros <;> try first | apply hK | omega | rfl | simp <;> omega
   show awp _ _ _ _
   refine rgL fun K hK => ?_
   simp (disch := omega) [prO, zeO, tmO]
   (repeat' apply And.intro)
   all_goals (try omega)
   refine call_rule (caps := []) (h5) [0] [0] 1 rfl rfl rfl rfl (by kernel_rfl) (by simp) ?_ ?_ (by simp) rfl (by simp) ⟨.inr ⟨rfl, 0, _, _, _, _, _, rfl, rfl, (by first | rfl | simp [prO]), rfl, (by first | rfl | simp [prO])⟩, trivial⟩ (by simp [prO]) ?_
   ·simp [prO]
   ·simp [prO]
   simp (disch := omega) [prO, zeO, tmO]
   (repeat' first | apply hK | apply And.intro) <;> try first | omega | rfl | (simp <;> omega)
   refine ⟨(skipS s pe', .mk 4 n [v]), ⟨hs5.1, ?_⟩, by simp only; omega, ?_⟩
   ·simp only [Bool.true_eq_false, ↓reduceIte]
    exact expsP_fuel (s.size + 1 - skipS s pe') (s.size - q) (skipS s pe') (.mk 4 n [v]) hs5.1 (by omega) (by omega)
   refine wk_list [(0, some 0), (1, some 1), (2, some 2)] rfl ?_ ?_ ?_ ?_
   all_goals try simp [prO, zeO, tmO, tsTerm, Tm.op, Tm.n, Tm.args, cellsL, Tm.cells_eq]
theorem factor_fn (P : Nat → PR) (s : ByteArray) (pos : Nat) (hp : pos ≤ s.size) (hs : s.size ≤ 1000000) (hle : (atomP P s pos).2.2 ≤ s.size)
  (hA : FnS Tryz.prog 120 [.ptr 0 0 2] [prO s pos] (.tup [tmV 2 (atomP P s pos).1, .t 2 (.bool (atomP P s pos).2.1)]) [prO s (atomP P s pos).2.2])
  (hz : (factorP P s pos).2.1 = false → (factorP P s pos).1 = .zero) :
  FnS Tryz.prog 107 [.ptr 0 0 2] [prO s pos] (.tup [tmV 2 (factorP P s pos).1, .t 2 (.bool (factorP P s pos).2.1)]) [prO s (factorP P s pos).2.2] := by
 refine FnS.res' (factor_fn' P s pos hp hs hle hA) (fun E v h => ?_)
 unfold factorR at h
 by_cases e : (factorP P s pos).2.1 = false
 ·rw [if_pos e] at h
  rw [hz e]
  exact h.leaf
 ·rw [if_neg e] at h
  exact h
theorem expsP_zero {s : ByteArray} : ∀ f pos t, (expsP s f pos t).2.1 = false → (expsP s f pos t).1 = .zero
 | 0, pos, t, h => by cases h
 | f + 1, pos, t, h => by
  rw [expsP_succ] at h ⊢
  by_cases e1 : pkB s pos = 94
  ·rw [if_pos e1] at h ⊢
   by_cases e2 : (expS s (pos + 1)).2.1 = false
   ·rw [if_pos e2]
   ·rw [if_neg e2] at h ⊢
    exact expsP_zero f _ _ h
  ·rw [if_neg e1] at h
   cases h
theorem expsP_le {s : ByteArray} : ∀ f pos t, pos ≤ s.size → (expsP s f pos t).2.2 ≤ s.size ∧ pos ≤ (expsP s f pos t).2.2
 | 0, pos, t, hp => ⟨hp, Nat.le_refl _⟩
 | f + 1, pos, t, hp => by
  rw [expsP_succ]
  by_cases e1 : pkB s pos = 94
  ·have h1 := pkB_lt hp (by omega) e1
   have h2 := expS_le (s := s) (pos := pos + 1) (by omega)
   have h3 := skipS_le h2.1
   rw [if_pos e1]
   by_cases e2 : (expS s (pos + 1)).2.1 = false
   ·rw [if_pos e2]; exact ⟨h2.1, by simp only; omega⟩
   ·rw [if_neg e2]
    have h4 := expsP_le f (skipS s (expS s (pos + 1)).2.2) (.mk 4 (expS s (pos + 1)).1 [t]) h3.1
    exact ⟨h4.1, by omega⟩
  ·rw [if_neg e1]; exact ⟨hp, Nat.le_refl _⟩
theorem factorP_zero {P : Nat → PR} {s : ByteArray} {pos : Nat} (h : (factorP P s pos).2.1 = false) : (factorP P s pos).1 = .zero := by
 unfold factorP at h ⊢
 by_cases e : (atomP P s pos).2.1 = false
 ·rw [if_pos e]
 ·rw [if_neg e] at h ⊢
  exact expsP_zero _ _ _ h
theorem factorP_le {P : Nat → PR} {s : ByteArray} {pos : Nat} (hp : pos ≤ s.size) (hP : pos + 1 ≤ s.size → (P (pos + 1)).2.2 ≤ s.size ∧ pos + 1 ≤ (P (pos + 1)).2.2) : (factorP P s pos).2.2 ≤ s.size ∧ pos ≤ (factorP P s pos).2.2 ∧ ((factorP P s pos).2.1 = true → pos + 1 ≤ (factorP P s pos).2.2) := by
 obtain ⟨h1, h2, h3⟩ := atomP_le hp hP
 unfold factorP
 by_cases e : (atomP P s pos).2.1 = false
 ·rw [if_pos e]; exact ⟨h1, h2, fun h => by cases h⟩
 ·rw [if_neg e]
  have h4 := skipS_le h1
  have h5 := expsP_le (s.size + 1 - skipS s (atomP P s pos).2.2) (skipS s (atomP P s pos).2.2) (atomP P s pos).1 h4.1
  have h6 := h3 (by simpa using e)
  exact ⟨h5.1, by omega, fun _ => by omega⟩

set_option linter.unusedSimpArgs false

def PGood (P : Nat → PR) (s : ByteArray) (lo : Nat) : Prop := ∀ q, lo ≤ q → q ≤ s.size → (P q).2.2 ≤ s.size ∧ q ≤ (P q).2.2
theorem factsP_succ (P : Nat → PR) (s : ByteArray) (f pos : Nat) (acc : List Tm) : factsP P s (f + 1) pos acc = (if acc.length = 0 ∨ begB (pkB s pos) = true then
   (
    if (factorP P s pos).2.1 = false then (.zero, false, (factorP P s pos).2.2)
    else factsP P s f (skipS s (factorP P s pos).2.2) (acc ++ [(factorP P s pos).1]))
  else (if acc.length = 1 then acc.getD 0 .zero else .mk 3 0 acc, true, pos)) := rfl
theorem factsP_fuel {P : Nat → PR} {s : ByteArray} {lo : Nat} (hP : PGood P s lo) : ∀ f g pos acc, lo ≤ pos + 1 → pos ≤ s.size → s.size - pos < f → s.size - pos < g → factsP P s f pos acc = factsP P s g pos acc
 | 0, g, pos, acc, hl, hp, hf, hg => by omega
 | f + 1, 0, pos, acc, hl, hp, hf, hg => by omega
 | f + 1, g + 1, pos, acc, hl, hp, hf, hg => by
  rw [factsP_succ, factsP_succ]
  by_cases e1 : acc.length = 0 ∨ begB (pkB s pos) = true
  ·rw [if_pos e1, if_pos e1]
   obtain ⟨h1, h2, h3⟩ := factorP_le hp (P := P) (fun h => hP (pos + 1) hl h)
   by_cases e2 : (factorP P s pos).2.1 = false
   ·rw [if_pos e2, if_pos e2]
   ·rw [if_neg e2, if_neg e2]
    have h4 := h3 (by simpa using e2)
    have h5 := skipS_le h1
    exact factsP_fuel hP f g _ _ (by omega) h5.1 (by omega) (by omega)
  ·rw [if_neg e1, if_neg e1]
theorem factsP_le {P : Nat → PR} {s : ByteArray} {lo : Nat} (hP : PGood P s lo) : ∀ f pos acc, lo ≤ pos + 1 → pos ≤ s.size → (factsP P s f pos acc).2.2 ≤ s.size ∧ pos ≤ (factsP P s f pos acc).2.2
 | 0, pos, acc, hl, hp => ⟨hp, Nat.le_refl _⟩
 | f + 1, pos, acc, hl, hp => by
  rw [factsP_succ]
  by_cases e1 : acc.length = 0 ∨ begB (pkB s pos) = true
  ·rw [if_pos e1]
   obtain ⟨h1, h2, h3⟩ := factorP_le hp (P := P) (fun h => hP (pos + 1) hl h)
   by_cases e2 : (factorP P s pos).2.1 = false
   ·rw [if_pos e2]; exact ⟨h1, h2⟩
   ·rw [if_neg e2]
    have h5 := skipS_le h1
    have := factsP_le hP f _ (acc ++ [(factorP P s pos).1]) (by omega) h5.1
    exact ⟨this.1, by omega⟩
  ·rw [if_neg e1]; exact ⟨hp, Nat.le_refl _⟩
theorem factsP_zero {P : Nat → PR} {s : ByteArray} : ∀ f pos acc, (factsP P s f pos acc).2.1 = false → (factsP P s f pos acc).1 = .zero
 | 0, pos, acc, h => rfl
 | f + 1, pos, acc, h => by
  rw [factsP_succ] at h ⊢
  by_cases e1 : acc.length = 0 ∨ begB (pkB s pos) = true
  ·rw [if_pos e1] at h ⊢
   by_cases e2 : (factorP P s pos).2.1 = false
   ·rw [if_pos e2]
   ·rw [if_neg e2] at h ⊢
    exact factsP_zero f _ _ h
  ·rw [if_neg e1] at h; cases h
theorem termP_succ (s : ByteArray) (f pos : Nat) : termP s (f + 1) pos = factsP (termP s f) s (s.size + 2 - skipS s pos) (skipS s pos) [] := rfl
theorem termP_le {s : ByteArray} : ∀ f pos, pos ≤ s.size → (termP s f pos).2.2 ≤ s.size ∧ pos ≤ (termP s f pos).2.2
 | 0, pos, hp => ⟨hp, Nat.le_refl _⟩
 | f + 1, pos, hp => by
  rw [termP_succ]
  have h5 := skipS_le hp
  have := factsP_le (P := termP s f) (s := s) (lo := 0) (fun q _ hq => termP_le f q hq) (s.size + 2 - skipS s pos) (skipS s pos) [] (by omega) h5.1
  exact ⟨this.1, by omega⟩
theorem termP_zero {s : ByteArray} : ∀ f pos, (termP s f pos).2.1 = false → (termP s f pos).1 = .zero
 | 0, pos, h => rfl
 | f + 1, pos, h => by
  rw [termP_succ] at h ⊢
  exact factsP_zero _ _ _ h

set_option maxRecDepth 100000
set_option maxHeartbeats 32000000
attribute [local simp] ints rows scal wr64 wr8
set_option linter.unusedSimpArgs false

def fsO (acc : List Tm) : AObj := .row 29 3 2 (cellsL acc)
def termR (x : PR) : AV := if x.2.1 = false then tmL 0 0 else tmV 2 x.1
theorem term_fn' (P : Nat → PR) (s : ByteArray) (pos : Nat) (hp : pos ≤ s.size) (hs : s.size ≤ 100000) (hP : PGood P s (pos + 1))
  (hF : ∀ q, pos ≤ q → q ≤ s.size → FnS Tryz.prog 107 [.ptr 0 0 2] [prO s q] (.tup [tmV 2 (factorP P s q).1, .t 2 (.bool (factorP P s q).2.1)]) [prO s (factorP P s q).2.2]) :
  FnS Tryz.prog 75 [.ptr 0 0 2] [prO s pos] (.tup [termR (factsP P s (s.size + 2 - skipS s pos) (skipS s pos) []), .t 2 (.bool (factsP P s (s.size + 2 - skipS s pos) (skipS s pos) []).2.1)]) [prO s (factsP P s (s.size + 2 - skipS s pos) (skipS s pos) []).2.2] := by
 have h1 := spaces_fn s pos hp (by omega)
 have hsk := skipS_le hp
 generalize skipS s pos = p0 at h1 hsk ⊢
 refine fn_intro Tryz.func75 rfl (by simp [Tryz.f75]) ?_
 rw [show Tryz.f75.ntmps = 39 from rfl, show Tryz.f75.results = #[.cell 2 29, .tmp 3] from rfl]
 refine rgS fun K hK => ?_
 simp (disch := omega) [prO]
 and_intros <;> try first | apply hK | omega | rfl | simp <;> omega
 refine rgS fun K hK => ?_
 simp (disch := omega) [prO]
 and_intros <;> try first | apply hK | omega | rfl | simp <;> omega
 refine awp_seq ?_
 refine rgS fun K hK => ?_
 simp (disch := omega) [prO]
 (repeat' apply And.intro)
 all_goals (try omega)
 refine call_rule (caps := []) (h1) [0] [0] 1 rfl rfl rfl rfl (by kernel_rfl) (by simp) ?_ ?_ (by simp) rfl (by simp) ⟨.inr ⟨rfl, 0, _, _, _, _, _, rfl, rfl, (by first | rfl | simp [prO]), rfl, (by first | rfl | simp [prO])⟩, trivial⟩ (by simp [prO]) ?_
 ·simp [prO]
 ·simp [prO]
 simp (disch := omega) [prO]
 and_intros <;> try first | apply hK | omega | rfl | simp <;> omega
 refine awp_block ?_
 refine awp_loop (fun y : Nat × List Tm => mkS [(0, .ptr 0 0 2), (2, .ptr 1 0 3), (4, .own 2 (y.2.length * 3))] [(0, prO s y.1), (1, zeO), (2, fsO y.2)] 3 39 [.ptr 0 0 2]) (fun y => pos ≤ y.1 ∧ y.1 ≤ s.size ∧ y.2.length ≤ y.1 ∧ factsP P s (s.size + 2 - y.1) y.1 y.2 = factsP P s (s.size + 2 - p0) p0 []) (fun y => s.size - y.1) ?_ ?_
 ·refine ⟨(p0, []), ⟨hsk.2, hsk.1, by simp, rfl⟩, ?_⟩
  refine wk_list [(0, some 0), (1, some 1), (2, none)] rfl ?_ ?_ ?_ ?_
  all_goals try simp [prO, zeO, fsO, cellsL, tsTerm]
 rintro ⟨q, acc⟩ ⟨hq0, hq, hacc, hex⟩
 simp only at hq0 hq hacc hex
 rw [← hex]
 rw [show s.size + 2 - q = (s.size - q + 1) + 1 by omega, factsP_succ P s (s.size - q + 1) q acc]
 refine awp_seq ?_
 refine awp_seq (awp_mono (Q := fun e σ => e = Exit.normal ∧ Wk σ (mkS [(0, .ptr 0 0 2), (2, .ptr 1 0 3), (4, .own 2 (acc.length * 3)), (16, .t 2 (.bool (decide (acc.length = 0 ∨ begB (pkB s q) = true))))] [(0, prO s q), (1, zeO), (2, fsO acc)] 3 39 [.ptr 0 0 2])) ?_ ?_)
 ·by_cases e0 : acc.length = 0
  ·refine rgL fun K hK => ?_
   simp (disch := omega) [prO, zeO, fsO, e0]
   (repeat' first | apply hK | apply And.intro) <;> try first | omega | rfl | (simp <;> omega)
   refine wk_list [(0, some 0), (1, some 1), (2, some 2)] rfl ?_ ?_ ?_ ?_
   all_goals try simp [prO, zeO, fsO, e0]
  ·have h2 := peek_fn s q hq (by omega)
   have h3 := begins_fn (pkB_rng s q).1 (pkB_rng s q).2
   have e0' : ((acc.length : Int) == 0) = false := by simpa using e0
   refine rgL fun K hK => ?_
   simp (disch := omega) [prO, zeO, fsO, e0, e0']
   (repeat' apply And.intro)
   all_goals (try omega)
   refine call_rule (caps := []) (h2) [0] [0] 1 (by simp [prO, zeO, fsO, e0, e0']) rfl rfl rfl (by kernel_rfl) (by simp) ?_ ?_ (by simp) rfl (by simp) ⟨.inr ⟨rfl, 0, _, _, _, _, _, rfl, rfl, (by first | rfl | simp [prO, zeO, fsO, e0, e0']), rfl, (by first | rfl | simp [prO, zeO, fsO, e0, e0'])⟩, trivial⟩ (by simp [prO, zeO, fsO, e0, e0']) ?_
   ·simp [prO, zeO, fsO, e0, e0']
   ·simp [prO, zeO, fsO, e0, e0']
   simp (disch := omega) [prO, zeO, fsO, e0, e0']
   (repeat' apply And.intro)
   all_goals (try omega)
   refine callO (h3) (by simp [e0, e0']) rfl rfl rfl (by kernel_rfl) (by simp) ?_ ?_
   ·simp [e0, e0']
   simp (disch := omega) [prO, zeO, fsO, e0, e0']
   (repeat' first | apply hK | apply And.intro) <;> try first | omega | rfl | (simp <;> omega)
   refine wk_list [(0, some 0), (1, some 1), (2, some 2)] rfl ?_ ?_ ?_ ?_
   all_goals try simp [prO, zeO, fsO, e0]
 rintro e σ ⟨rfl, hw⟩
 refine awp_weak hw ?_
 clear hw
 show awp _ _ _ _
 by_cases e1 : acc.length = 0 ∨ begB (pkB s q) = true
 case neg =>
  rw [if_neg e1, decide_eq_false e1]
  refine condF (by simp <;> omega) ?_
  refine awp_exit ?_
  show awp _ _ _ _
  refine awp_seq ?_
  by_cases e2 : acc.length = 1
  ·obtain ⟨a, rfl⟩ : ∃ a, acc = [a] := by
    match acc, e2 with
    | [a], _ => exact ⟨a, rfl⟩
   refine rgS fun K hK => ?_
   simp (disch := omega) [prO, zeO, fsO]
   and_intros <;> try first | apply hK | omega | rfl | simp <;> omega
   refine condT (by simp <;> omega) ?_
   refine rgS fun K hK => ?_
   simp (disch := omega) [prO, zeO, fsO, cellsL, Tm.cells_eq, tsTerm]
   and_intros <;> try first | apply hK | omega | rfl | simp <;> omega
   refine awp_ret ?_
   unfold termR
   refine ⟨⟨.inr rfl, _, [(0, some 0)], (by first | rfl | (simp [prO, zeO, fsO, tsTerm, tmV]; rfl)), ?_, ?_, ?_, ?_⟩, ?_⟩
   all_goals try simp [prO, zeO, fsO, tsTerm, tmV]
  ·have e2' : ((acc.length : Int) == 1) = false := by simp; omega
   refine rgS fun K hK => ?_
   simp (disch := omega) [prO, zeO, fsO, e2, e2']
   and_intros <;> try first | apply hK | omega | rfl | simp <;> omega
   refine condF (by simp <;> omega) ?_
   refine awp_skip ?_
   show awp _ _ _ _
   refine rgS fun K hK => ?_
   simp (disch := omega) [prO, zeO, fsO, tsTerm]
   and_intros <;> try first | apply hK | omega | rfl | simp <;> omega
   refine awp_ret ?_
   unfold termR
   rw [if_neg e2]
   refine ⟨⟨.inr rfl, _, [(0, some 0)], (by first | rfl | (simp [prO, zeO, fsO, tsTerm, tmV, Tm.op, Tm.n, Tm.args]; rfl)), ?_, ?_, ?_, ?_⟩, ?_⟩
   all_goals try simp [prO, zeO, fsO, tsTerm, tmV, Tm.op, Tm.n, Tm.args]
 rw [if_pos e1, decide_eq_true e1]
 have h4 := hF q hq0 hq
 obtain ⟨hl1, hl2, hl3⟩ := factorP_le hq (P := P) (fun h => hP (q + 1) (by omega) h)
 generalize factorP P s q = x at h4 hl1 hl2 hl3 ⊢
 obtain ⟨u, b, pe⟩ := x
 simp only at h4 hl1 hl2 hl3 ⊢
 refine condT (by simp <;> omega) ?_
 refine awp_skip ?_
 show awp _ _ _ _
 refine awp_seq ?_
 refine awp_block ?_
 refine rgS fun K hK => ?_
 simp (disch := omega) [prO, zeO, fsO]
 (repeat' apply And.intro)
 all_goals (try omega)
 refine call_rule (caps := []) (h4) [0] [0] 1 rfl rfl rfl rfl (by kernel_rfl) (by simp) ?_ ?_ (by simp) rfl (by simp) ⟨.inr ⟨rfl, 0, _, _, _, _, _, rfl, rfl, (by first | rfl | simp [prO]), rfl, (by first | rfl | simp [prO])⟩, trivial⟩ (by simp [prO]) ?_
 ·simp [prO]
 ·simp [prO]
 simp (disch := omega) [prO, zeO, fsO, tmV, tsTerm]
 and_intros <;> try first | apply hK | omega | rfl | simp <;> omega
 refine awp_seq ?_
 refine rgS fun K hK => ?_
 simp (disch := omega) [prO, zeO, fsO]
 (repeat' first | apply hK | apply And.intro) <;> try first | omega | rfl | (simp <;> omega)
 cases b with
 | false =>
  refine condT (by simp <;> omega) ?_
  refine rgS fun K hK => ?_
  simp (disch := omega) [prO, zeO, fsO, tsTerm]
  and_intros <;> try first | apply hK | omega | rfl | simp <;> omega
  refine awp_ret ?_
  unfold termR
  simp only [↓reduceIte]
  unfold tmL
  refine ⟨⟨.inr rfl, _, [(0, some 0)], (by first | rfl | (simp [prO, zeO, fsO, tsTerm, tmV]; rfl)), ?_, ?_, ?_, ?_⟩, ?_⟩
  all_goals try simp [prO, zeO, fsO, tsTerm, tmV]
 | true =>
  have hl4 := hl3 rfl
  have h5 := spaces_fn s pe hl1 (by omega)
  have hs5 := skipS_le hl1
  refine condF (by simp <;> omega) ?_
  refine awp_skip ?_
  show awp _ _ _ _
  refine rgL fun K hK => ?_
  simp (disch := omega) [prO, zeO, fsO, tsTerm]
  and_intros <;> try first | apply hK | omega | rfl | simp <;> omega
  show awp _ _ _ _
  refine rgL fun K hK => ?_
  simp (disch := omega) [prO, zeO, fsO]
  (repeat' apply And.intro)
  all_goals (try omega)
  refine call_rule (caps := []) (h5) [0] [0] 1 rfl rfl rfl rfl (by kernel_rfl) (by simp) ?_ ?_ (by simp) rfl (by simp) ⟨.inr ⟨rfl, 0, _, _, _, _, _, rfl, rfl, (by first | rfl | simp [prO]), rfl, (by first | rfl | simp [prO])⟩, trivial⟩ (by simp [prO]) ?_
  ·simp [prO]
  ·simp [prO]
  simp (disch := omega) [prO, zeO, fsO]
  (repeat' first | apply hK | apply And.intro) <;> try first | omega | rfl | (simp <;> omega)
  refine ⟨(skipS s pe, acc ++ [u]), ⟨by simp only; omega, hs5.1, by simp; omega, ?_⟩, by simp only; omega, ?_⟩
  ·simp only [Bool.true_eq_false, ↓reduceIte]
   exact factsP_fuel hP _ _ _ _ (by omega) hs5.1 (by omega) (by omega)
  refine wk_list [(0, some 0), (1, some 1), (2, some 2)] rfl ?_ ?_ ?_ ?_
  all_goals try simp [prO, zeO, fsO, cellsL_app, cellsL, Tm.cells_eq]
  omega
theorem term_fn (s : ByteArray) (hs : s.size ≤ 100000) : ∀ f pos, pos ≤ s.size → s.size - pos < f → FnS Tryz.prog 75 [.ptr 0 0 2] [prO s pos] (.tup [tmV 2 (termP s f pos).1, .t 2 (.bool (termP s f pos).2.1)]) [prO s (termP s f pos).2.2]
 | 0, pos, hp, hf => by omega
 | f + 1, pos, hp, hf => by
  have hP : PGood (termP s f) s (pos + 1) := fun q _ hq => termP_le f q hq
  refine FnS.res' (term_fn' (termP s f) s pos hp hs hP (fun q h1 h2 => ?_)) (fun E v h => ?_)
  ·have hA := atom_fn (termP s f) s q h2 (by omega) (fun h3 => ⟨(termP_le f (q + 1) h3).1, term_fn s hs f (q + 1) h3 (by omega)⟩)
   exact factor_fn (termP s f) s q h2 (by omega) (atomP_le h2 (fun h3 => termP_le f (q + 1) h3)).1 hA factorP_zero
  ·rw [← termP_succ] at h
   unfold termR at h
   by_cases e : (termP s (f + 1) pos).2.1 = false
   ·rw [if_pos e] at h
    rw [termP_zero _ _ e]
    exact h.leaf
   ·rw [if_neg e] at h
    exact h

set_option maxRecDepth 100000
set_option maxHeartbeats 32000000
attribute [local simp] ints rows scal wr64 wr8
set_option linter.unusedSimpArgs false

def ups : List AV → List AV → Prop
 | [], [] => True
 | a :: as', b :: bs => (∀ E v, VR E v a → VR E v b) ∧ ups as' bs
 | _, _ => False
theorem ups_len : ∀ {l r : List AV}, ups l r → l.length = r.length
 | [], [], _ => rfl
 | a :: l, b :: r, h => by simp [ups_len h.2]
theorem ups_get : ∀ {l r : List AV} (_ : ups l r) (i : Nat) (b : AV), r[i]? = some b → ∃ a, l[i]? = some a ∧ ∀ E v, VR E v a → VR E v b
 | [], [], _, i, b, hi => by simp at hi
 | a :: l, b :: r, h, 0, c, hi => by simp at hi; subst hi; exact ⟨a, rfl, h.1⟩
 | a :: l, b :: r, h, i + 1, c, hi => by simpa using ups_get h.2 i c (by simpa using hi)
theorem VR.upT {E : Ev} {v : Value} {l r : List AV} (h : VR E v (.tup l)) (hu : ups l r) : VR E v (.tup r) := by
 cases h with
 | tup vs cs hn hr =>
  refine .tup vs _ (hn.trans (ups_len hu)) (fun i c hi => ?_)
  obtain ⟨a, ha, hf⟩ := ups_get hu i c hi
  exact hf _ _ (hr i a ha)
theorem VR.upA {E : Ev} {v : Value} {l r : List AV} (h : VR E v (.agg l)) (hu : ups l r) : VR E v (.agg r) := by
 cases h with
 | agg vs cs hn h1 hr =>
  refine .agg vs _ (hn.trans (ups_len hu)) h1 (fun i c hi => ?_)
  obtain ⟨a, ha, hf⟩ := ups_get hu i c hi
  exact hf _ _ (hr i a ha)
theorem VR.nil3 {E : Ev} {v : Value} {p : Nat} (z : Nat) (h : VR E v (.t p (.sl 0 []))) : VR E v (.t p (.sl z [])) := by
 rw [nil_val h]
 exact .t _ _ _ (.nil z)
theorem VR.zeT {E : Ev} {v : Value} {o n : Int} (h : VR E v (tmL o n)) : VR E v (tmV 2 (.mk o n [])) :=
 VR.upA h ⟨fun _ _ h => h, fun _ _ h => h, fun _ _ h => h.nil3 3, trivial⟩
def idL0 : AV := .agg [.t 2 (.int .i64 0), .t 2 (.int .i64 0), .t 2 (.sl 0 []), .t 2 (.int .i64 0), .t 2 (.int .i64 0), .t 2 (.sl 0 [])]
theorem VR.zeI {E : Ev} {v : Value} (h : VR E v idL0) : VR E v (idV 2 .zero .zero) :=
 VR.upA h ⟨fun _ _ h => h, fun _ _ h => h, fun _ _ h => h.nil3 3, fun _ _ h => h, fun _ _ h => h, fun _ _ h => h.nil3 3, trivial⟩
def parP (s : ByteArray) : Tm × Int × Int :=
 if 1000 < s.size then (.zero, 0, 21)
 else if (termP s (s.size + 1) 0).2.1 = false ∨ (termP s (s.size + 1) 0).2.2 < s.size then (.zero, ((termP s (s.size + 1) 0).2.2 : Int), 2)
 else if (termP s (s.size + 1) 0).1.val = true then ((termP s (s.size + 1) 0).1, -1, 0) else (.zero, 0, 21)
def parV (x : Tm × Int × Int) : AV := .tup [tmV 2 x.1, .t 2 (.int .i64 x.2.1), .t 2 (.int .i64 x.2.2)]
def parR (x : Tm × Int × Int) : AV := .tup [if x.2.2 = 0 then tmV 2 x.1 else tmL 0 0, .t 2 (.int .i64 x.2.1), .t 2 (.int .i64 x.2.2)]
theorem parse_fn' (s : ByteArray) (hs : s.size ≤ 100000) : FnA Tryz.prog 42 [.t 2 (.str s)] (parR (parP s)) := by
 have h1 := term_fn s hs (s.size + 1) 0 (by omega) (by omega)
 have hle := (termP_le (s.size + 1) 0 (s := s) (by omega)).1
 unfold parP
 generalize termP s (s.size + 1) 0 = x at h1 hle ⊢
 obtain ⟨t, b, pe⟩ := x
 simp only at h1 hle ⊢
 refine fn_intro Tryz.func42 rfl (by simp [Tryz.f42]) ?_
 rw [show Tryz.f42.ntmps = 38 from rfl, show Tryz.f42.results = #[.cell 2 29, .tmp 3, .tmp 4] from rfl]
 refine rgS fun K hK => ?_
 simp (disch := omega)
 and_intros <;> try first | apply hK | omega | rfl | simp <;> omega
 refine awp_seq ?_
 refine rgS fun K hK => ?_
 simp (disch := omega)
 (repeat' first | apply hK | apply And.intro) <;> try first | omega | rfl | (simp <;> omega)
 by_cases e0 : 1000 < s.size
 ·have e0' : (1000 : Int) < (s.size : Int) := by omega
  refine condT (by simp [e0'] <;> omega) ?_
  refine rgS fun K hK => ?_
  simp (disch := omega) [tsTerm]
  and_intros <;> try first | apply hK | omega | rfl | simp <;> omega
  refine awp_ret ?_
  rw [if_pos e0]
  unfold parR
  simp only [Int.reduceEq, ↓reduceIte]
  unfold tmL
  refine ⟨⟨.inr rfl, _, [], (by first | rfl | (simp [tsTerm]; rfl)), ?_, ?_, ?_, ?_⟩, ?_⟩
  all_goals try simp [tsTerm]
 have e0' : ¬ (1000 : Int) < (s.size : Int) := by omega
 refine condF (by simp [e0'] <;> omega) ?_
 refine awp_skip ?_
 show awp _ _ _ _
 refine rgS fun K hK => ?_
 simp (disch := omega)
 and_intros <;> try first | apply hK | omega | rfl | simp <;> omega
 refine awp_weak (σ' := mkS [(0, .t 2 (.str s)), (2, .ptr 1 0 3), (5, .ptr 0 0 2)] [(0, prO s 0), (1, zeO)] 2 38 [.any]) ?_ ?_
 ·refine wk_list [(0, some 8000000), (1, some 0)] rfl ?_ ?_ ?_ ?_
  all_goals try simp [prO, zeO, tsTerm]
 refine rgS fun K hK => ?_
 simp (disch := omega)
 (repeat' apply And.intro)
 all_goals (try omega)
 refine call_rule (caps := []) (h1) [0] [0] 1 rfl rfl rfl rfl (by kernel_rfl) (by simp) ?_ ?_ (by simp) rfl (by simp) ⟨.inr ⟨rfl, 0, _, _, _, _, _, rfl, rfl, (by first | rfl | simp [prO]), rfl, (by first | rfl | simp [prO])⟩, trivial⟩ (by simp [prO]) ?_
 ·simp [prO]
 ·simp [prO]
 simp (disch := omega) [prO, zeO, tmV, tsTerm]
 and_intros <;> try first | apply hK | omega | rfl | simp <;> omega
 refine awp_seq ?_
 by_cases e1 : b = false ∨ pe < s.size
 ·refine awp_seq (awp_mono (Q := fun e σ => e = Exit.normal ∧ Wk σ (mkS [(2, .ptr 1 0 3), (5, .ptr 0 0 2), (27, .t 2 (.bool true))] [(0, prO s pe), (1, zeO)] 2 38 [.any])) ?_ ?_)
  ·cases b with
   | false =>
    refine rgL fun K hK => ?_
    simp (disch := omega) [prO, zeO]
    (repeat' first | apply hK | apply And.intro) <;> try first | omega | rfl | (simp <;> omega)
    refine wk_list [(0, some 0), (1, some 1)] rfl ?_ ?_ ?_ ?_
    all_goals try simp [prO, zeO]
   | true =>
    have e2 : (pe : Int) < (s.size : Int) := by
     rcases e1 with e1 | e1
     ·cases e1
     ·omega
    refine rgL fun K hK => ?_
    simp (disch := omega) [prO, zeO, e2]
    (repeat' first | apply hK | apply And.intro) <;> try first | omega | rfl | (simp <;> omega)
    refine wk_list [(0, some 0), (1, some 1)] rfl ?_ ?_ ?_ ?_
    all_goals try simp [prO, zeO]
  rintro e σ ⟨rfl, hw⟩
  refine awp_weak hw ?_
  clear hw
  show awp _ _ _ _
  refine condT (by simp <;> omega) ?_
  refine awp_seqD (by kernel_rfl) (fun K hK => ?_)
  simp (disch := omega) [prO, zeO, tsTerm]
  and_intros <;> try first | apply hK | (show chkD _ _ = true; kernel_rfl) | omega | rfl | simp <;> omega
  refine awp_ret ?_
  rw [if_neg e0, if_pos e1]
  unfold parR
  simp only [Int.reduceEq, ↓reduceIte]
  unfold tmL
  refine ⟨⟨.inr rfl, _, [], (by first | rfl | (simp [tsTerm, zeO, prO]; rfl)), ?_, ?_, ?_, ?_⟩, ?_⟩
  all_goals try simp [tsTerm, zeO, prO]
 ·obtain ⟨rfl, rfl⟩ : b = true ∧ pe = s.size := by
   cases b
   ·exact absurd (.inl rfl) e1
   ·exact ⟨rfl, by omega⟩
  have hv := oValidate_fn t
  have hvt : vTm t = if t.val = true then 0 else 21 := rfl
  refine rgS fun K hK => ?_
  simp (disch := omega) [prO, zeO]
  and_intros <;> try first | apply hK | omega | rfl | simp <;> omega
  refine condF (by simp <;> omega) ?_
  refine awp_skip ?_
  show awp _ _ _ _
  refine awp_seq ?_
  refine rgS fun K hK => ?_
  simp (disch := omega) [prO, zeO]
  (repeat' apply And.intro)
  all_goals (try omega)
  refine callO (hv) rfl rfl rfl rfl (by kernel_rfl) (by simp) ?_ ?_
  ·simp [tmV, prO, zeO]
  simp (disch := omega) [prO, zeO]
  (repeat' first | apply hK | apply And.intro) <;> try first | omega | rfl | (simp <;> omega)
  rw [if_neg e0, if_neg e1]
  by_cases e2 : t.val = true
  ·rw [if_pos e2] at hvt
   rw [if_pos e2]
   refine rgS fun K hK => ?_
   simp (disch := omega) [hvt]
   and_intros <;> try first | apply hK | omega | rfl | simp <;> omega
   refine condF (by simp <;> omega) ?_
   refine awp_skip ?_
   show awp _ _ _ _
   refine rgS fun K hK => ?_
   simp (disch := omega) [prO, zeO, tsTerm]
   and_intros <;> try first | apply hK | omega | rfl | simp <;> omega
   refine awp_ret ?_
   unfold parR
   simp only [↓reduceIte]
   unfold tmV
   refine ⟨⟨.inr rfl, _, [], (by first | rfl | (simp [tsTerm, zeO, prO]; rfl)), ?_, ?_, ?_, ?_⟩, ?_⟩
   all_goals try simp [tsTerm, zeO, prO]
  ·rw [if_neg e2] at hvt
   rw [if_neg e2]
   refine rgS fun K hK => ?_
   simp (disch := omega) [hvt]
   and_intros <;> try first | apply hK | omega | rfl | simp <;> omega
   refine condT (by simp <;> omega) ?_
   refine rgS fun K hK => ?_
   simp (disch := omega) [prO, zeO, tsTerm, hvt]
   and_intros <;> try first | apply hK | omega | rfl | simp <;> omega
   refine awp_ret ?_
   unfold parR
   simp only [Int.reduceEq, ↓reduceIte]
   unfold tmL
   refine ⟨⟨.inr rfl, _, [], (by first | rfl | (simp [tsTerm, zeO, prO]; rfl)), ?_, ?_, ?_, ?_⟩, ?_⟩
   all_goals try simp [tsTerm, zeO, prO]
theorem parP_err {s : ByteArray} (h : (parP s).2.2 ≠ 0) : (parP s).1 = .zero := by
 unfold parP at h ⊢
 split
 ·rfl
 ·split
  ·rfl
  ·split
   ·rename_i h1 h2 h3
    rw [if_neg h1, if_neg h2, if_pos h3] at h
    exact absurd rfl h
   ·rfl
theorem parse_fn (s : ByteArray) (hs : s.size ≤ 100000) : FnA Tryz.prog 42 [.t 2 (.str s)] (parV (parP s)) :=
 FnS.res' (parse_fn' s hs) fun E v h => h.upT ⟨fun E v h => by
  by_cases e : (parP s).2.2 = 0
  ·rw [if_pos e] at h; exact h
  ·rw [if_neg e] at h; rw [parP_err e]; exact h.zeT, fun _ _ h => h, fun _ _ h => h, trivial⟩
def parI (s : ByteArray) : Tm × Tm × Int × Int :=
 if 1000 < s.size then (.zero, .zero, 0, 21)
 else if (termP s (s.size + 1) 0).2.1 = false ∨ pkB s (termP s (s.size + 1) 0).2.2 ≠ 61 then (.zero, .zero, ((termP s (s.size + 1) 0).2.2 : Int), 2)
 else if (termP s (s.size + 1) ((termP s (s.size + 1) 0).2.2 + 1)).2.1 = false ∨ (termP s (s.size + 1) ((termP s (s.size + 1) 0).2.2 + 1)).2.2 < s.size then (.zero, .zero, ((termP s (s.size + 1) ((termP s (s.size + 1) 0).2.2 + 1)).2.2 : Int), 2)
 else if (termP s (s.size + 1) 0).1.val = true ∧ (termP s (s.size + 1) ((termP s (s.size + 1) 0).2.2 + 1)).1.val = true then ((termP s (s.size + 1) 0).1, (termP s (s.size + 1) ((termP s (s.size + 1) 0).2.2 + 1)).1, -1, 0) else (.zero, .zero, 0, 21)
def pidV (x : Tm × Tm × Int × Int) : AV := .tup [idV 2 x.1 x.2.1, .t 2 (.int .i64 x.2.2.1), .t 2 (.int .i64 x.2.2.2)]
def pidR (x : Tm × Tm × Int × Int) : AV := .tup [if x.2.2.2 = 0 then idV 2 x.1 x.2.1 else idL0, .t 2 (.int .i64 x.2.2.1), .t 2 (.int .i64 x.2.2.2)]
def ziO : AObj := .box 31 [.t 2 (.int .i64 0), .t 2 (.int .i64 0), .t 2 (.sl 0 []), .t 2 (.int .i64 0), .t 2 (.int .i64 0), .t 2 (.sl 0 [])]
theorem tsIdent (h : 31 < Tryz.prog.types.size) : (Tryz.prog.types[31]'h).size = 6 := by rfl
theorem parseId_fn' (s : ByteArray) (hs : s.size ≤ 100000) : FnA Tryz.prog 43 [.t 2 (.str s)] (pidR (parI s)) := by
 have h1 := term_fn s hs (s.size + 1) 0 (by omega) (by omega)
 have hle := (termP_le (s.size + 1) 0 (s := s) (by omega)).1
 have h2 : ∀ p, p ≤ s.size → (termP s (s.size + 1) p).2.2 ≤ s.size ∧ FnS Tryz.prog 75 [.ptr 0 0 2] [prO s p] (.tup [tmV 2 (termP s (s.size + 1) p).1, .t 2 (.bool (termP s (s.size + 1) p).2.1)]) [prO s (termP s (s.size + 1) p).2.2] := fun p hp => ⟨(termP_le (s.size + 1) p hp).1, term_fn s hs (s.size + 1) p hp (by omega)⟩
 unfold parI
 generalize termP s (s.size + 1) = Q at h1 hle h2 ⊢
 generalize Q 0 = x at h1 hle ⊢
 obtain ⟨t, b, pe⟩ := x
 simp only at h1 hle ⊢
 refine fn_intro Tryz.func43 rfl (by simp [Tryz.f43]) ?_
 rw [show Tryz.f43.ntmps = 56 from rfl, show Tryz.f43.results = #[.cell 2 31, .tmp 3, .tmp 4] from rfl]
 refine rgS fun K hK => ?_
 simp (disch := omega)
 and_intros <;> try first | apply hK | omega | rfl | simp <;> omega
 refine awp_seq ?_
 refine rgS fun K hK => ?_
 simp (disch := omega)
 (repeat' first | apply hK | apply And.intro) <;> try first | omega | rfl | (simp <;> omega)
 by_cases e0 : 1000 < s.size
 ·have e0' : (1000 : Int) < (s.size : Int) := by omega
  refine condT (by simp [e0'] <;> omega) ?_
  refine rgS fun K hK => ?_
  simp (disch := omega) [tsIdent]
  and_intros <;> try first | apply hK | omega | rfl | simp <;> omega
  refine awp_ret ?_
  rw [if_pos e0]
  unfold pidR
  simp only [Int.reduceEq, ↓reduceIte]
  unfold idL0
  refine ⟨⟨.inr rfl, _, [], (by first | rfl | (simp [tsIdent]; rfl)), ?_, ?_, ?_, ?_⟩, ?_⟩
  all_goals try simp [tsIdent]
 have e0' : ¬ (1000 : Int) < (s.size : Int) := by omega
 refine condF (by simp [e0'] <;> omega) ?_
 refine awp_skip ?_
 show awp _ _ _ _
 refine rgS fun K hK => ?_
 simp (disch := omega)
 and_intros <;> try first | apply hK | omega | rfl | simp <;> omega
 refine awp_weak (σ' := mkS [(0, .t 2 (.str s)), (2, .ptr 1 0 6), (5, .ptr 0 0 2)] [(0, prO s 0), (1, ziO)] 2 56 [.any]) ?_ ?_
 ·refine wk_list [(0, some 8000000), (1, some 0)] rfl ?_ ?_ ?_ ?_
  all_goals try simp [prO, ziO, tsIdent]
 refine rgS fun K hK => ?_
 simp (disch := omega)
 (repeat' apply And.intro)
 all_goals (try omega)
 refine call_rule (caps := []) (h1) [0] [0] 1 rfl rfl rfl rfl (by kernel_rfl) (by simp) ?_ ?_ (by simp) rfl (by simp) ⟨.inr ⟨rfl, 0, _, _, _, _, _, rfl, rfl, (by first | rfl | simp [prO]), rfl, (by first | rfl | simp [prO])⟩, trivial⟩ (by simp [prO]) ?_
 ·simp [prO]
 ·simp [prO]
 simp (disch := omega) [prO, ziO, tmV, tsTerm]
 and_intros <;> try first | apply hK | omega | rfl | simp <;> omega
 refine awp_seq ?_
 by_cases e1 : b = false ∨ pkB s pe ≠ 61
 ·refine awp_seq (awp_mono (Q := fun e σ => e = Exit.normal ∧ Wk σ (mkS [(2, .ptr 1 0 6), (5, .ptr 0 0 2), (26, .t 2 (.bool true))] [(0, prO s pe), (1, ziO)] 2 56 [.any])) ?_ ?_)
  ·cases b with
   | false =>
    refine rgL fun K hK => ?_
    simp (disch := omega) [prO, ziO]
    (repeat' first | apply hK | apply And.intro) <;> try first | omega | rfl | (simp <;> omega)
    refine wk_list [(0, some 0), (1, some 1)] rfl ?_ ?_ ?_ ?_
    all_goals try simp [prO, ziO]
   | true =>
    have e2 : pkB s pe ≠ 61 := by
     rcases e1 with e1 | e1
     ·cases e1
     ·exact e1
    have h3 := accept_no hle (by omega) (by omega) e2
    refine rgL fun K hK => ?_
    simp (disch := omega) [prO, ziO]
    (repeat' apply And.intro)
    all_goals (try omega)
    refine call_rule (caps := []) (h3) [0] [0] 1 (by simp [prO, ziO]) rfl rfl rfl (by kernel_rfl) (by simp) ?_ ?_ (by simp) rfl (by simp) ⟨.inr ⟨rfl, 0, _, _, _, _, _, rfl, rfl, (by first | rfl | simp [prO, ziO]), rfl, (by first | rfl | simp [prO, ziO])⟩, trivial⟩ (by simp [prO, ziO]) ?_
    ·simp [prO, ziO]
    ·simp [prO, ziO]
    simp (disch := omega) [prO, ziO]
    (repeat' first | apply hK | apply And.intro) <;> try first | omega | rfl | (simp <;> omega)
    refine wk_list [(0, some 0), (1, some 1)] rfl ?_ ?_ ?_ ?_
    all_goals try simp [prO, ziO]
  rintro e σ ⟨rfl, hw⟩
  refine awp_weak hw ?_
  clear hw
  show awp _ _ _ _
  refine condT (by simp <;> omega) ?_
  refine awp_seqD (by kernel_rfl) (fun K hK => ?_)
  simp (disch := omega) [prO, ziO, tsIdent]
  and_intros <;> try first | apply hK | (show chkD _ _ = true; kernel_rfl) | omega | rfl | simp <;> omega
  refine awp_ret ?_
  rw [if_neg e0, if_pos e1]
  unfold pidR
  simp only [Int.reduceEq, ↓reduceIte]
  unfold idL0
  refine ⟨⟨.inr rfl, _, [], (by first | rfl | (simp [tsIdent, ziO, prO]; rfl)), ?_, ?_, ?_, ?_⟩, ?_⟩
  all_goals try simp [tsIdent, ziO, prO]
 obtain ⟨rfl, e2⟩ : b = true ∧ pkB s pe = 61 := by
  cases b
  ·exact absurd (.inl rfl) e1
  ·exact ⟨rfl, Decidable.byContradiction fun h => e1 (.inr h)⟩
 rw [if_neg e0, if_neg e1]
 obtain ⟨hle1, h3⟩ := accept_yes hle (by omega) (by omega) e2
 obtain ⟨hle2, h4⟩ := h2 (pe + 1) hle1
 clear h2 h1
 generalize Q (pe + 1) = y at h4 hle2 ⊢
 obtain ⟨u, b, pf⟩ := y
 simp only at h4 hle2 ⊢
 refine rgS fun K hK => ?_
 simp (disch := omega) [prO, ziO]
 (repeat' apply And.intro)
 all_goals (try omega)
 refine call_rule (caps := []) (h3) [0] [0] 1 (by simp [prO, ziO]) rfl rfl rfl (by kernel_rfl) (by simp) ?_ ?_ (by simp) rfl (by simp) ⟨.inr ⟨rfl, 0, _, _, _, _, _, rfl, rfl, (by first | rfl | simp [prO, ziO]), rfl, (by first | rfl | simp [prO, ziO])⟩, trivial⟩ (by simp [prO, ziO]) ?_
 ·simp [prO, ziO]
 ·simp [prO, ziO]
 simp (disch := omega) [prO, ziO]
 and_intros <;> try first | apply hK | omega | rfl | simp <;> omega
 refine condF (by simp <;> omega) ?_
 refine awp_skip ?_
 show awp _ _ _ _
 refine awp_weak (σ' := mkS [(0, .t 2 (.str s)), (2, .ptr 1 0 6), (5, .ptr 0 0 2), (6, .ptr 2 0 3)] [(0, prO s (pe + 1)), (1, ziO), (2, tmO t)] 3 56 [.any]) ?_ ?_
 ·refine wk_list [(0, some 0), (1, some 1), (2, some 4000002)] rfl ?_ ?_ ?_ ?_
  all_goals try simp [prO, ziO, tmO, tsTerm]
 refine rgS fun K hK => ?_
 simp (disch := omega) [prO, ziO, tmO]
 (repeat' apply And.intro)
 all_goals (try omega)
 refine call_rule (caps := []) (h4) [0] [0] 1 rfl rfl rfl rfl (by kernel_rfl) (by simp) ?_ ?_ (by simp) rfl (by simp) ⟨.inr ⟨rfl, 0, _, _, _, _, _, rfl, rfl, (by first | rfl | simp [prO]), rfl, (by first | rfl | simp [prO])⟩, trivial⟩ (by simp [prO]) ?_
 ·simp [prO]
 ·simp [prO]
 simp (disch := omega) [prO, ziO, tmO, tmV, tsTerm]
 and_intros <;> try first | apply hK | omega | rfl | simp <;> omega
 refine awp_weak (σ' := mkS [(0, .t 2 (.str s)), (2, .ptr 1 0 6), (5, .ptr 0 0 2), (6, .ptr 2 0 3), (7, .t 2 (.bool b)), (8, .ptr 3 0 3)] [(0, prO s pf), (1, ziO), (2, tmO t), (3, tmO u)] 4 56 [.any]) ?_ ?_
 ·refine wk_list [(0, some 0), (1, some 1), (2, some 2), (3, some 4000003)] rfl ?_ ?_ ?_ ?_
  all_goals try simp [prO, ziO, tmO, tsTerm]
 refine awp_seq ?_
 by_cases e3 : b = false ∨ pf < s.size
 ·refine awp_seq (awp_mono (Q := fun e σ => e = Exit.normal ∧ Wk σ (mkS [(2, .ptr 1 0 6), (5, .ptr 0 0 2), (42, .t 2 (.bool true))] [(0, prO s pf), (1, ziO)] 2 56 [.any])) ?_ ?_)
  ·cases b with
   | false =>
    refine rgL fun K hK => ?_
    simp (disch := omega) [prO, ziO, tmO]
    (repeat' first | apply hK | apply And.intro) <;> try first | omega | rfl | (simp <;> omega)
    refine wk_list [(0, some 0), (1, some 1)] rfl ?_ ?_ ?_ ?_
    all_goals try simp [prO, ziO]
   | true =>
    have e4 : (pf : Int) < (s.size : Int) := by
     rcases e3 with e3 | e3
     ·cases e3
     ·omega
    refine rgL fun K hK => ?_
    simp (disch := omega) [prO, ziO, tmO, e4]
    (repeat' first | apply hK | apply And.intro) <;> try first | omega | rfl | (simp <;> omega)
    refine wk_list [(0, some 0), (1, some 1)] rfl ?_ ?_ ?_ ?_
    all_goals try simp [prO, ziO]
  rintro e σ ⟨rfl, hw⟩
  refine awp_weak hw ?_
  clear hw
  show awp _ _ _ _
  refine condT (by simp <;> omega) ?_
  refine awp_seqD (by kernel_rfl) (fun K hK => ?_)
  simp (disch := omega) [prO, ziO, tsIdent]
  and_intros <;> try first | apply hK | (show chkD _ _ = true; kernel_rfl) | omega | rfl | simp <;> omega
  refine awp_ret ?_
  rw [if_pos e3]
  unfold pidR
  simp only [Int.reduceEq, ↓reduceIte]
  unfold idL0
  refine ⟨⟨.inr rfl, _, [], (by first | rfl | (simp [tsIdent, ziO, prO]; rfl)), ?_, ?_, ?_, ?_⟩, ?_⟩
  all_goals try simp [tsIdent, ziO, prO]
 rw [if_neg e3]
 obtain ⟨rfl, rfl⟩ : b = true ∧ pf = s.size := by
  cases b
  ·exact absurd (.inl rfl) e3
  ·exact ⟨rfl, by omega⟩
 have hv := oValidId_fn t u
 refine rgS fun K hK => ?_
 simp (disch := omega) [prO, ziO, tmO]
 and_intros <;> try first | apply hK | omega | rfl | simp <;> omega
 refine condF (by simp <;> omega) ?_
 refine awp_skip ?_
 show awp _ _ _ _
 refine rgS fun K hK => ?_
 simp (disch := omega) [prO, ziO, tmO, tsIdent, tsTerm]
 and_intros <;> try first | apply hK | omega | rfl | simp <;> omega
 refine awp_weak (σ' := mkS [(2, .ptr 0 0 6), (9, .ptr 1 0 6)] [(0, ziO), (1, .box 31 [.t 2 (.int .i64 t.op), .t 2 (.int .i64 t.n), .t 2 (.sl 3 (cellsL t.args)), .t 2 (.int .i64 u.op), .t 2 (.int .i64 u.n), .t 2 (.sl 3 (cellsL u.args))])] 2 56 [.any]) ?_ ?_
 ·refine wk_list [(0, some 1), (1, some 12000004)] rfl ?_ ?_ ?_ ?_
  all_goals try simp [prO, ziO, tmO, tsIdent, tsTerm]
 refine awp_seq ?_
 refine rgS fun K hK => ?_
 simp (disch := omega) [ziO]
 (repeat' apply And.intro)
 all_goals (try omega)
 refine callO (hv) rfl rfl rfl rfl (by kernel_rfl) (by simp) ?_ ?_
 ·simp [idV, ziO]
 simp (disch := omega) [ziO]
 (repeat' first | apply hK | apply And.intro) <;> try first | omega | rfl | (simp <;> omega)
 by_cases e4 : t.val = true ∧ u.val = true
 ·have hvt : vId t u = 0 := by unfold vId vTm; rw [if_pos e4.1, if_pos e4.2]
  rw [if_pos e4]
  refine rgS fun K hK => ?_
  simp (disch := omega) [hvt]
  and_intros <;> try first | apply hK | omega | rfl | simp <;> omega
  refine condF (by simp <;> omega) ?_
  refine awp_skip ?_
  show awp _ _ _ _
  refine rgS fun K hK => ?_
  simp (disch := omega) [ziO, tsIdent]
  and_intros <;> try first | apply hK | omega | rfl | simp <;> omega
  refine awp_ret ?_
  unfold pidR
  simp only [↓reduceIte]
  unfold idV
  refine ⟨⟨.inr rfl, _, [], (by first | rfl | (simp [tsIdent, ziO]; rfl)), ?_, ?_, ?_, ?_⟩, ?_⟩
  all_goals try simp [tsIdent, ziO]
 ·have hvt : vId t u = 21 := by
   unfold vId vTm
   by_cases h : t.val = true
   ·rw [if_pos h, if_neg (fun h2 => e4 ⟨h, h2⟩)]
   ·rw [if_neg h]
  rw [if_neg e4]
  refine rgS fun K hK => ?_
  simp (disch := omega) [hvt]
  and_intros <;> try first | apply hK | omega | rfl | simp <;> omega
  refine condT (by simp <;> omega) ?_
  refine rgS fun K hK => ?_
  simp (disch := omega) [ziO, tsIdent, hvt]
  and_intros <;> try first | apply hK | omega | rfl | simp <;> omega
  refine awp_ret ?_
  unfold pidR
  simp only [Int.reduceEq, ↓reduceIte]
  unfold idL0
  refine ⟨⟨.inr rfl, _, [], (by first | rfl | (simp [tsIdent, ziO]; rfl)), ?_, ?_, ?_, ?_⟩, ?_⟩
  all_goals try simp [tsIdent, ziO]
theorem parI_err {s : ByteArray} (h : (parI s).2.2.2 ≠ 0) : (parI s).1 = .zero ∧ (parI s).2.1 = .zero := by
 unfold parI at h ⊢
 split
 ·exact ⟨rfl, rfl⟩
 ·split
  ·exact ⟨rfl, rfl⟩
  ·split
   ·exact ⟨rfl, rfl⟩
   ·split
    ·rename_i h1 h2 h3 h4
     rw [if_neg h1, if_neg h2, if_neg h3, if_pos h4] at h
     exact absurd rfl h
    ·exact ⟨rfl, rfl⟩
theorem parseId_fn (s : ByteArray) (hs : s.size ≤ 100000) : FnA Tryz.prog 43 [.t 2 (.str s)] (pidV (parI s)) :=
 FnS.res' (parseId_fn' s hs) fun E v h => h.upT ⟨fun E v h => by
  by_cases e : (parI s).2.2.2 = 0
  ·rw [if_pos e] at h; exact h
  ·rw [if_neg e] at h; rw [(parI_err e).1, (parI_err e).2]; exact h.zeI, fun _ _ h => h, fun _ _ h => h, trivial⟩

set_option maxRecDepth 100000
set_option maxHeartbeats 32000000
attribute [local simp] ints rows scal wr64 wr8
set_option linter.unusedSimpArgs false

attribute [simp] aAppStr
@[simp] theorem u8E : u8El Tryz.prog 5 = true := by kernel_rfl
def nameB (n : Int) : Int := byteAt namesB n.toNat
def expB (n : Int) : List Int := if n = 0 then [94, 119] else if n < 0 then [94, 40, 119, 45, 49, 41] else [94, 40, 119, 43, 48 + n, 41]
mutual
def Tm.fmt : Tm → Bool → List Int
 | .mk o n l, inner => if o = 1 then [49] else if o = 2 then [nameB n] else if o = 4 then fmtL l ++ expB n else (if inner then [40] else []) ++ fmtL l ++ (if inner then [41] else [])
def fmtL : List Tm → List Int
 | [] => []
 | a :: r => a.fmt true ++ fmtL r
end
theorem fmt_eq (t : Tm) (inner : Bool) : t.fmt inner = if t.op = 1 then [49] else if t.op = 2 then [nameB t.n] else if t.op = 4 then fmtL t.args ++ expB t.n else (if inner then [40] else []) ++ fmtL t.args ++ (if inner then [41] else []) := by
 obtain ⟨o, n, l⟩ := t
 rw [Tm.fmt]
 rfl
theorem fmtL_app : ∀ l r : List Tm, fmtL (l ++ r) = fmtL l ++ fmtL r
 | [], r => by show fmtL r = [] ++ fmtL r; simp
 | a :: l, r => by
  show a.fmt true ++ fmtL (l ++ r) = (a.fmt true ++ fmtL l) ++ fmtL r
  rw [fmtL_app l r, List.append_assoc]
theorem take_fmt {l : List Tm} {k : Nat} (h : k < l.length) : fmtL (l.take (k + 1)) = fmtL (l.take k) ++ l[k].fmt true := by
 rw [List.take_succ_eq_append_getElem h, fmtL_app]
 show _ ++ (l[k].fmt true ++ []) = _
 rw [List.append_nil]
theorem expB_len (n : Int) : (expB n).length ≤ 6 := by
 unfold expB
 split
 ·simp
 ·split <;> simp
mutual
theorem fmt_len : ∀ (t : Tm) (inner : Bool), (t.fmt inner).length ≤ 8 * t.sz
 | .mk o n l, inner => by
  have := fmtL_len l
  have := expB_len n
  rw [Tm.fmt, Tm.sz]
  split
  ·simp; omega
  ·split
   ·simp; omega
   ·split
    ·rw [List.length_append]; omega
    ·cases inner <;> simp <;> omega
theorem fmtL_len : ∀ l : List Tm, (fmtL l).length ≤ 8 * szL l
 | [] => by simp [fmtL]
 | a :: r => by
  have := fmt_len a true
  have := fmtL_len r
  rw [fmtL, szL, List.length_append]; omega
end
def bT (bs : List Int) : List T := bs.map (.int .u8)
@[simp] theorem bT_len (bs : List Int) : (bT bs).length = bs.length := by simp [bT]
def byO (bs : List Int) : AObj := .row 5 1 1 (bT bs)
def AppS (t : Tm) : Prop := ∀ (bs : List Int) (inner : Bool), bs.length + 8 * t.sz ≤ 1000000 → FnS Tryz.prog 77 [.own 0 bs.length, tmV 0 t, .t 2 (.bool inner)] [byO bs] (.own 0 (bs ++ t.fmt inner).length) [byO (bs ++ t.fmt inner)]
theorem name_ok {n : Int} (h0 : 0 ≤ n) (h1 : n < 6) : byteAt ⟨#[120, 121, 122, 117, 118, 116]⟩ n.toNat = nameB n := rfl
theorem bsT2 (a b : UInt8) : bsT ⟨#[a, b]⟩ = bT [a.toNat, b.toNat] := rfl
theorem bsT6 (a b c d e f : UInt8) : bsT ⟨#[a, b, c, d, e, f]⟩ = bT [a.toNat, b.toNat, c.toNat, d.toNat, e.toNat, f.toNat] := rfl
theorem app_body (t : Tm) (ho : t.ok = true) (ih : ∀ a ∈ t.args, AppS a) (bs : List Int) (inner : Bool) (hb : bs.length + 8 * t.sz ≤ 1000000) (c : Code) (hc : Tryz.f77.body = some c) :
  awp Tryz.prog c (fun e σ => resQ Tryz.prog Tryz.f77.results.toList (.own 0 (bs ++ t.fmt inner).length) [byO (bs ++ t.fmt inner)] e σ ∧ σ.gh = [.any, .any, .any])
   (mkS [(0, .own 0 bs.length), (1, tmV 0 t), (2, .t 2 (.bool inner))] [(0, byO bs)] 1 71 [.any, .any, .any]) := by
 unfold Tryz.f77 at hc
 injection hc with hc
 subst hc
 rw [show Tryz.f77.results = #[.tmp 6] from rfl]
 have hwf : t.wf = true := by rw [ok_eq, Bool.and_eq_true] at ho; exact ho.1
 have hokl : okL' t.args = true := by rw [ok_eq, Bool.and_eq_true] at ho; exact ho.2
 unfold Tm.wf at hwf
 rw [decide_eq_true_iff] at hwf
 have hsz := sz_eq t
 have hsl := szL_ge t.args
 have hfl := fmtL_len t.args
 rw [fmt_eq]
 refine rgS fun K hK => ?_
 simp (disch := omega) [tmV, byO]
 and_intros <;> try first | apply hK | omega | rfl | simp <;> omega
 refine awp_seq ?_
 refine rgS fun K hK => ?_
 simp (disch := omega) [tmV, byO]
 and_intros <;> try first | apply hK | omega | rfl | simp <;> omega
 refine awp_block ?_
 refine rgS fun K hK => ?_
 simp (disch := omega) [byO]
 (repeat' first | apply hK | apply And.intro) <;> try first | omega | rfl | (simp <;> omega)
 by_cases e1 : t.op = 1
 ·refine condT (by simp [e1] <;> omega) ?_
  refine rgS fun K hK => ?_
  simp (disch := omega) [byO]
  and_intros <;> try first | apply hK | omega | rfl | simp <;> omega
  refine awp_ret ?_
  rw [if_pos e1]
  refine ⟨⟨.inr rfl, _, [(0, some 0)], (by first | rfl | (simp [byO, bT]; rfl)), ?_, ?_, ?_, ?_⟩, ?_⟩
  all_goals try simp [byO, bT]
 refine condF (by simp [e1] <;> omega) ?_
 refine rgS fun K hK => ?_
 simp (disch := omega) [byO]
 (repeat' first | apply hK | apply And.intro) <;> try first | omega | rfl | (simp <;> omega)
 by_cases e2 : t.op = 2
 ·obtain ⟨hn0, hn1⟩ : 0 ≤ t.n ∧ t.n < 6 := by omega
  have hnm := name_ok hn0 hn1
  refine condT (by simp [e2] <;> omega) ?_
  refine rgS fun K hK => ?_
  simp (disch := omega) [byO]
  (repeat' first | apply hK | apply And.intro) <;> try first | omega | rfl | (simp <;> omega)
  ·exact hn1
  refine awp_ret ?_
  rw [if_neg e1, if_pos e2, ← hnm]
  refine ⟨⟨.inr rfl, _, [(0, some 0)], (by first | rfl | (simp [byO, bT]; rfl)), ?_, ?_, ?_, ?_⟩, ?_⟩
  all_goals try simp [byO, bT]
 refine condF (by simp [e2] <;> omega) ?_
 refine rgS fun K hK => ?_
 simp (disch := omega) [byO]
 (repeat' first | apply hK | apply And.intro) <;> try first | omega | rfl | (simp <;> omega)
 by_cases e4 : t.op = 4
 ·obtain ⟨hn0, hn1, hl1⟩ : -1 ≤ t.n ∧ t.n ≤ 9 ∧ t.args.length = 1 := by omega
  obtain ⟨a, ha⟩ : ∃ a, t.args = [a] := by
   cases h : t.args with
   | nil => rw [h] at hl1; cases hl1
   | cons a r => cases r with
    | nil => exact ⟨a, rfl⟩
    | cons _ _ => rw [h] at hl1; simp at hl1
  rw [ha] at hfl hsz
  have hA := ih a (by rw [ha]; simp) bs true (by simp [szL] at hsz; omega)
  have hfa : fmtL [a] = a.fmt true := by show a.fmt true ++ [] = _; simp
  have hal := fmt_len a true
  have hsa : t.sz = 1 + a.sz := by simp [szL] at hsz; omega
  refine condT (by simp [e4] <;> omega) ?_
  refine rgS fun K hK => ?_
  simp (disch := omega) [byO, ha, cellsL, Tm.cells_eq]
  (repeat' apply And.intro)
  all_goals (try omega)
  refine call_rule (caps := []) (hA) [0] [15000001] 1 rfl rfl rfl rfl (by kernel_rfl) (by simp) ?_ ?_ (by simp) rfl (by simp) ⟨.inl ⟨by omega, by omega⟩, trivial⟩ (by simp [byO, tmV, ha]) ?_
  ·simp [byO, tmV, ha]
  ·simp [byO, tmV, ha]
  simp (disch := omega) [byO]
  and_intros <;> try first | apply hK | omega | rfl | simp <;> omega
  refine awp_weak (σ' := mkS [(0, .own 0 (bs ++ a.fmt true).length), (4, .ptr 1 0 3)] [(0, byO (bs ++ a.fmt true)), (1, .box 29 [.t 2 (.int .i64 t.op), .t 2 (.int .i64 t.n), .t 0 (.sl 3 (cellsL [a]))])] 2 71 [.any, .any, .any]) ?_ ?_
  ·refine wk_list [(0, some 15000001), (1, some 1)] rfl ?_ ?_ ?_ ?_
   all_goals try simp [byO, ha, tmV, cellsL, Tm.cells_eq]
  rw [if_neg e1, if_neg e2, if_pos e4, ha, hfa]
  refine awp_seq ?_
  refine awp_block ?_
  refine rgS fun K hK => ?_
  simp (disch := omega) [byO]
  (repeat' first | apply hK | apply And.intro) <;> try first | omega | rfl | (simp <;> omega)
  by_cases e5 : t.n = 0
  ·refine condT (by simp [e5] <;> omega) ?_
   refine rgS fun K hK => ?_
   simp (disch := omega) [byO, bsT2]
   and_intros <;> try first | apply hK | omega | rfl | simp <;> omega
   refine awp_ret ?_
   refine ⟨⟨.inr rfl, _, [(0, some 0)], (by first | rfl | (simp [byO, expB, e5, bT]; rfl)), ?_, ?_, ?_, ?_⟩, ?_⟩
   all_goals try simp [byO, expB, e5, bT]
   all_goals (try omega)
  refine condF (by simp [e5] <;> omega) ?_
  refine rgS fun K hK => ?_
  simp (disch := omega) [byO]
  (repeat' first | apply hK | apply And.intro) <;> try first | omega | rfl | (simp <;> omega)
  by_cases e6 : t.n < 0
  ·refine condT (by simp [e6] <;> omega) ?_
   refine rgS fun K hK => ?_
   simp (disch := omega) [byO, bsT6]
   and_intros <;> try first | apply hK | omega | rfl | simp <;> omega
   refine awp_ret ?_
   refine ⟨⟨.inr rfl, _, [(0, some 0)], (by first | rfl | (simp [byO, expB, e5, e6, bT]; rfl)), ?_, ?_, ?_, ?_⟩, ?_⟩
   all_goals try simp [byO, expB, e5, e6, bT]
   all_goals (try omega)
  refine condF (by simp [e6] <;> omega) ?_
  refine awp_skip ?_
  show awp _ _ _ _
  refine rgS fun K hK => ?_
  simp (disch := omega) [byO]
  and_intros <;> try first | apply hK | omega | rfl | simp <;> omega
  refine awp_ret ?_
  refine ⟨⟨.inr rfl, _, [(0, some 0)], (by first | rfl | (simp [byO, expB, e5, e6, bT]; rfl)), ?_, ?_, ?_, ?_⟩, ?_⟩
  all_goals try simp [byO, expB, e5, e6, bT]
  all_goals (try omega)
 refine condF (by simp [e4] <;> omega) ?_
 refine awp_skip ?_
 show awp _ _ _ _
 rw [if_neg e1, if_neg e2, if_neg e4]
 refine awp_seq (awp_mono (Q := fun e σ => e = Exit.normal ∧ Wk σ (mkS [(0, .own 0 (bs ++ (if inner then [40] else [])).length), (2, .t 2 (.bool inner)), (4, .ptr 1 0 3)] [(0, byO (bs ++ (if inner then [40] else []))), (1, .box 29 [.t 2 (.int .i64 t.op), .t 2 (.int .i64 t.n), .t 0 (.sl 3 (cellsL t.args))])] 2 71 [.any, .any, .any])) ?_ ?_)
 ·refine rgS fun K hK => ?_
  simp (disch := omega) [byO]
  (repeat' first | apply hK | apply And.intro) <;> try first | omega | rfl | (simp <;> omega)
  cases inner with
  | true =>
   refine condT (by simp <;> omega) ?_
   refine rgL fun K hK => ?_
   simp (disch := omega) [byO]
   (repeat' first | apply hK | apply And.intro) <;> try first | omega | rfl | (simp <;> omega)
   refine wk_list [(0, some 0), (1, some 1)] rfl ?_ ?_ ?_ ?_
   all_goals try simp [byO, bT, tmV]
  | false =>
   refine condF (by simp <;> omega) ?_
   refine awp_skip ?_
   refine ⟨rfl, ?_⟩
   refine wk_list [(0, some 0), (1, some 1)] rfl ?_ ?_ ?_ ?_
   all_goals try simp [byO, bT, tmV]
 rintro e σ ⟨rfl, hw⟩
 refine awp_weak hw ?_
 clear hw
 show awp _ _ _ _
 generalize hpre : bs ++ (if inner then [40] else []) = pre
 have hpl : pre.length ≤ bs.length + 1 := by rw [← hpre]; cases inner <;> simp
 have htot : bs ++ ((if inner then [40] else []) ++ fmtL t.args ++ (if inner then [41] else [])) = pre ++ fmtL t.args ++ (if inner then [41] else []) := by
  rw [← hpre]; simp
 rw [htot]
 refine awp_seq ?_
 refine rgS fun K hK => ?_
 simp (disch := omega) [byO]
 and_intros <;> try first | apply hK | omega | rfl | simp <;> omega
 refine awp_block ?_
 refine awp_loop (fun k : Nat => mkS [(0, .own 0 (pre ++ fmtL (t.args.take k)).length), (2, .t 2 (.bool inner)), (56, .t 0 (.sl 3 (cellsL t.args))), (57, .t 2 (.int .i64 t.args.length)), (58, .t 2 (.int .i64 k))] [(0, byO (pre ++ fmtL (t.args.take k)))] 1 71 [.any, .any, .any]) (fun k => k ≤ t.args.length) (fun k => t.args.length - k) ?_ ?_
 ·refine ⟨0, by omega, ?_⟩
  refine wk_list [(0, some 0)] rfl ?_ ?_ ?_ ?_
  all_goals try simp [byO, fmtL]
 intro k hk
 have hflk := fmtL_len (t.args.take k)
 have hslk := szL_take_le t.args k
 refine rgS fun K hK => ?_
 simp (disch := omega) [byO]
 and_intros <;> try first | apply hK | omega | rfl | simp <;> omega
 refine awp_seq ?_
 by_cases hkl : k < t.args.length
 ·obtain ⟨a, ha⟩ : ∃ a, a = t.args[k] := ⟨_, rfl⟩
  have hcut := cellsL_cut t.args k hkl
  rw [← ha, Tm.cells_eq] at hcut
  have ham : a ∈ t.args := by rw [ha]; exact List.getElem_mem hkl
  have htf := take_fmt hkl
  have hts := take_sz hkl
  rw [← ha] at htf hts
  have hslk1 := szL_take_le t.args (k + 1)
  have hA := ih a ham (pre ++ fmtL (t.args.take k)) true (by rw [List.length_append]; omega)
  refine condT (by simp [hkl] <;> omega) ?_
  refine awp_skip ?_
  show awp _ _ _ _
  refine awp_seq ?_
  refine awp_block ?_
  refine rgS fun K hK => ?_
  simp (disch := omega) [hcut, hkl, byO]
  and_intros <;> try first | apply hK | omega | rfl | simp <;> omega
  refine rgL fun K hK => ?_
  simp (disch := omega) [byO]
  (repeat' apply And.intro)
  all_goals (try omega)
  refine call_rule (caps := []) (hA) [0] [7000001] 1 rfl rfl rfl rfl (by kernel_rfl) (by simp) ?_ ?_ (by simp) rfl (by simp) ⟨.inl ⟨by omega, by omega⟩, trivial⟩ (by simp [byO, tmV]) ?_
  ·simp [byO, tmV]
  ·simp [byO, tmV]
  simp (disch := omega) [byO]
  and_intros <;> try first | apply hK | omega | rfl | simp <;> omega
  show awp _ _ _ _
  refine rgL fun K hK => ?_
  simp (disch := omega) [byO]
  (repeat' first | apply hK | apply And.intro) <;> try first | omega | rfl | (simp <;> omega)
  refine ⟨k + 1, by omega, by omega, ?_⟩
  refine wk_list [(0, some 7000001)] rfl ?_ ?_ ?_ ?_
  all_goals try simp [byO, htf]
 ·obtain rfl : k = t.args.length := by omega
  rw [List.take_length] at hflk ⊢
  refine condF (by simp <;> omega) ?_
  refine awp_exit ?_
  show awp _ _ _ _
  refine awp_seq ?_
  refine rgS fun K hK => ?_
  simp (disch := omega) [byO]
  (repeat' first | apply hK | apply And.intro) <;> try first | omega | rfl | (simp <;> omega)
  cases inner with
  | true =>
   refine condT (by simp <;> omega) ?_
   refine rgL fun K hK => ?_
   simp (disch := omega) [byO]
   and_intros <;> try first | apply hK | omega | rfl | simp <;> omega
   show awp _ _ _ _
   refine rgS fun K hK => ?_
   simp (disch := omega) [byO]
   and_intros <;> try first | apply hK | omega | rfl | simp <;> omega
   refine awp_ret ?_
   refine ⟨⟨.inr rfl, _, [(0, some 0)], (by first | rfl | (simp [byO, bT]; rfl)), ?_, ?_, ?_, ?_⟩, ?_⟩
   all_goals try simp [byO, bT]
   all_goals (try omega)
  | false =>
   refine condF (by simp <;> omega) ?_
   refine awp_skip ?_
   show awp _ _ _ _
   refine rgS fun K hK => ?_
   simp (disch := omega) [byO]
   and_intros <;> try first | apply hK | omega | rfl | simp <;> omega
   refine awp_ret ?_
   refine ⟨⟨.inr rfl, _, [(0, some 0)], (by first | rfl | (simp [byO, bT]; rfl)), ?_, ?_, ?_, ?_⟩, ?_⟩
   all_goals try simp [byO, bT]
theorem append_fn : ∀ t : Tm, t.ok = true → AppS t := by
 intro t
 induction hsz : t.sz using Nat.strongRecOn generalizing t with
 | _ q ih =>
 intro ho bs inner hb
 have hargs : ∀ a ∈ t.args, AppS a := fun a ha => by
  have h1 := sz_arg ha
  rw [ok_eq, Bool.and_eq_true] at ho
  exact ih a.sz (by omega) a rfl (okL'_all.1 ho.2 a ha)
 refine fn_intro Tryz.func77 rfl (by simp [Tryz.f77]) ?_
 refine awp_weak ?_ (app_body t ho hargs bs inner hb _ rfl)
 rw [show Tryz.f77.ntmps = 71 from rfl]
 refine wk_list [(0, some 0)] rfl ?_ ?_ ?_ ?_
 all_goals try simp [byO, tmV]
theorem append_nil_fn (t : Tm) (ho : t.ok = true) (inner : Bool) (hb : 8 * t.sz ≤ 1000000) : FnS Tryz.prog 77 [.t 0 (.sl 0 []), tmV 0 t, .t 2 (.bool inner)] [] (.own 0 (t.fmt inner).length) [byO (t.fmt inner)] := by
 have hargs : ∀ a ∈ t.args, AppS a := fun a ha => by
  rw [ok_eq, Bool.and_eq_true] at ho
  exact append_fn a (okL'_all.1 ho.2 a ha)
 refine fn_intro Tryz.func77 rfl (by simp [Tryz.f77]) ?_
 have h := app_body t ho hargs [] inner (by simpa using hb) _ rfl
 rw [List.nil_append] at h
 rw [show Tryz.f77.ntmps = 71 from rfl]
 refine awp_weak (σ' := mkS [(0, .own 0 ([] : List Int).length), (1, tmV 0 t), (2, .t 2 (.bool inner))] [(0, byO [])] 1 71 [.any, .any, .any]) ?_ h
 refine wk_list [(0, none)] rfl ?_ ?_ ?_ ?_
 all_goals try simp [byO, tmV, bT]
theorem bT_u8 (bs : List Int) : (bT bs).all isU8 = true := by
 simp [bT, isU8]
def toB (bs : List Int) : ByteArray := bytesT (bT bs)
def fmtS (t : Tm) : ByteArray := if t.val = true then toB (t.fmt false) else ⟨#[]⟩
theorem val_ok {t : Tm} (h : t.val = true) : t.ok = true ∧ t.sz ≤ 60 := by
 unfold Tm.val at h
 rw [Bool.and_eq_true, decide_eq_true_iff] at h
 exact h
theorem format_fn (t : Tm) : FnA Tryz.prog 44 [tmV 0 t] (.t 2 (.str (fmtS t))) := by
 have hv := oValidate_fn t
 refine fn_intro Tryz.func44 rfl (by simp [Tryz.f44]) ?_
 rw [show Tryz.f44.ntmps = 9 from rfl, show Tryz.f44.results = #[.tmp 2] from rfl]
 refine rgS fun K hK => ?_
 simp (disch := omega) [tmV]
 and_intros <;> try first | apply hK | omega | rfl | simp <;> omega
 refine awp_seq ?_
 refine rgS fun K hK => ?_
 simp (disch := omega)
 (repeat' apply And.intro)
 all_goals (try omega)
 refine callO (hv) rfl rfl rfl rfl (by kernel_rfl) (by simp) ?_ ?_
 ·simp [tmV]
 simp (disch := omega)
 (repeat' first | apply hK | apply And.intro) <;> try first | omega | rfl | (simp <;> omega)
 by_cases e : t.val = true
 ·have h0 : vTm t = 0 := by unfold vTm; rw [if_pos e]
  have ha := append_nil_fn t (val_ok e).1 false (by have := (val_ok e).2; omega)
  have hu := bT_u8 (t.fmt false)
  have hf : bytesT (bT (t.fmt false)) = fmtS t := by unfold fmtS; rw [if_pos e]; rfl
  refine condF (by simp [h0] <;> omega) ?_
  refine awp_skip ?_
  show awp _ _ _ _
  refine rgS fun K hK => ?_
  simp (disch := omega)
  (repeat' apply And.intro)
  all_goals (try omega)
  refine call_rule (caps := []) (ha) [] [6000000] 2 rfl rfl rfl rfl (by kernel_rfl) (by simp) ?_ ?_ (by simp) rfl (by simp) ⟨.inl ⟨by omega, by omega⟩, trivial⟩ (by simp [tmV, byO]) ?_
  ·simp [tmV, byO]
  ·trivial
  simp (disch := omega) [byO, hu, hf]
  and_intros <;> try first | apply hK | omega | rfl | simp <;> omega
  refine awp_ret ?_
  refine ⟨⟨.inr rfl, _, [], rfl, trivial, trivial, by simp [tmV], ?_⟩, by simp [tmV]⟩
  simp [tmV]
 ·have h0 : vTm t = 21 := by unfold vTm; rw [if_neg e]
  have hf : fmtS t = ⟨#[]⟩ := by unfold fmtS; rw [if_neg e]
  refine condT (by simp [h0] <;> omega) ?_
  refine rgS fun K hK => ?_
  simp (disch := omega)
  and_intros <;> try first | apply hK | omega | rfl | simp <;> omega
  refine awp_ret ?_
  refine ⟨⟨.inr rfl, _, [], rfl, trivial, trivial, by simp [hf, tmV, idV], ?_⟩, by simp [hf, tmV, idV]⟩
  simp [hf, tmV, idV]
end Go.Proofs.YtghnmmfkckneaaaGreat.M

namespace Go.Proofs.YtghnmmfkckneaaaGreat.M
open Go.RowKit
set_option linter.unusedVariables false
set_option linter.unusedSimpArgs false

def teO' (t : Tm) : AObj := .box 29 [.t 2 (.int .i64 t.op), .t 2 (.int .i64 t.n), .t 0 (.sl 3 (cellsL t.args))]
def Txt (s : ByteArray) (pos : Nat) (l : List Int) : Prop := pos + l.length ≤ s.size ∧ ∀ (i : Nat) (h : i < l.length), byteAt s (pos + i) = l[i]
theorem Txt.left {s : ByteArray} {pos : Nat} {l r : List Int} (h : Txt s pos (l ++ r)) : Txt s pos l := by
 obtain ⟨h1, h2⟩ := h
 rw [List.length_append] at h1
 exact ⟨by omega, fun i hi => by
  rw [h2 i (by rw [List.length_append]; omega), List.getElem_append_left hi]⟩
theorem Txt.right {s : ByteArray} {pos : Nat} {l r : List Int} (h : Txt s pos (l ++ r)) : Txt s (pos + l.length) r := by
 obtain ⟨h1, h2⟩ := h
 rw [List.length_append] at h1
 exact ⟨by omega, fun i hi => by
  rw [Nat.add_assoc, h2 (l.length + i) (by rw [List.length_append]; omega), List.getElem_append_right (by omega)]
  simp⟩
theorem Txt.at {s : ByteArray} {pos : Nat} {c : Int} {r : List Int} (h : Txt s pos (c :: r)) : pkB s pos = c ∧ pos < s.size ∧ Txt s (pos + 1) r := by
 obtain ⟨h1, h2⟩ := h
 rw [List.length_cons] at h1
 refine ⟨?_, by omega, by omega, fun i hi => ?_⟩
 ·unfold pkB
  rw [if_neg (by omega)]
  exact h2 0 (by simp)
 ·have := h2 (i + 1) (by simpa using hi)
  rw [show pos + 1 + i = pos + (i + 1) by omega, this]
  rfl
theorem skip_id {s : ByteArray} {pos : Nat} (hp : pos ≤ s.size) (h : pkB s pos ≠ 32) : skipS s pos = pos := by
 rw [skipS_eq hp, if_neg h]
theorem begB_ne {c : Int} (h : begB c = true) : c ≠ 94 ∧ c ≠ 32 := by
 refine ⟨fun e => ?_, fun e => ?_⟩ <;> subst e <;> revert h <;> decide
theorem wf_cases {t : Tm} (h : t.wf = true) : (t.op = 1 ∧ t.n = 0 ∧ t.args = []) ∨ (t.op = 2 ∧ 0 ≤ t.n ∧ t.n < 6 ∧ t.args = []) ∨ (t.op = 3 ∧ t.n = 0 ∧ 2 ≤ t.args.length) ∨ (t.op = 4 ∧ -1 ≤ t.n ∧ t.n ≤ 9 ∧ ∃ a, t.args = [a]) := by
 unfold Tm.wf at h
 have h := of_decide_eq_true h
 rcases h with ⟨a, b, c⟩ | ⟨a, b, c, d⟩ | ⟨a, b, c⟩ | ⟨a, b, c, d⟩
 ·exact .inl ⟨a, b, List.eq_nil_of_length_eq_zero c⟩
 ·exact .inr (.inl ⟨a, b, c, List.eq_nil_of_length_eq_zero d⟩)
 ·exact .inr (.inr (.inl ⟨a, b, c⟩))
 ·exact .inr (.inr (.inr ⟨a, b, c, List.length_eq_one_iff.1 d⟩))
theorem ok_parts {t : Tm} (h : t.ok = true) : t.wf = true ∧ ∀ a ∈ t.args, a.ok = true := by
 rw [ok_eq, Bool.and_eq_true] at h
 exact ⟨h.1, okL'_all.1 h.2⟩
theorem name_cases {n : Int} (h0 : 0 ≤ n) (h1 : n < 6) : begB (nameB n) = true ∧ varI (nameB n) = n ∧ nameB n ≠ 49 ∧ nameB n ≠ 40 := by
 obtain rfl | rfl | rfl | rfl | rfl | rfl : n = 0 ∨ n = 1 ∨ n = 2 ∨ n = 3 ∨ n = 4 ∨ n = 5 := by omega
 all_goals decide +kernel
theorem fmt_1 {t : Tm} (h : t.op = 1) (b : Bool) : t.fmt b = [49] := by rw [fmt_eq, if_pos h]
theorem fmt_2 {t : Tm} (h : t.op = 2) (b : Bool) : t.fmt b = [nameB t.n] := by rw [fmt_eq, if_neg (by omega), if_pos h]
theorem fmt_4 {t a : Tm} (h : t.op = 4) (ha : t.args = [a]) (b : Bool) : t.fmt b = a.fmt true ++ expB t.n := by
 rw [fmt_eq, if_neg (by omega), if_neg (by omega), if_pos h, ha]
 show (a.fmt true ++ []) ++ _ = _
 rw [List.append_nil]
theorem fmt_3 {t : Tm} (h : t.op = 3) : t.fmt true = 40 :: (fmtL t.args ++ [41]) := by
 rw [fmt_eq, if_neg (by omega), if_neg (by omega), if_neg (by omega)]
 rfl
theorem fmt_beg : ∀ (k : Nat) (t : Tm), t.sz ≤ k → t.ok = true → ∃ c r, t.fmt true = c :: r ∧ begB c = true
 | 0, t, hk, ho => by have := sz_pos t; omega
 | k + 1, t, hk, ho => by
  obtain ⟨hw, ha⟩ := ok_parts ho
  rcases wf_cases hw with ⟨h, -, -⟩ | ⟨h, h0, h1, -⟩ | ⟨h, -, -⟩ | ⟨h, -, -, a, e⟩
  ·exact ⟨49, [], fmt_1 h true, by decide⟩
  ·exact ⟨_, [], fmt_2 h true, (name_cases h0 h1).1⟩
  ·exact ⟨40, _, fmt_3 h, by decide⟩
  ·have hm : a ∈ t.args := by rw [e]; simp
   have := sz_arg hm
   obtain ⟨c, r, e1, e2⟩ := fmt_beg k a (by omega) (ha a hm)
   exact ⟨c, r ++ expB t.n, by rw [fmt_4 h e, e1]; rfl, e2⟩
def RdF (P : Nat → PR) (s : ByteArray) (pos q : Nat) (t : Tm) : Prop :=
 (atomP P s pos).2.1 = true ∧ expsP s (s.size + 1 - skipS s (atomP P s pos).2.2) (skipS s (atomP P s pos).2.2) (atomP P s pos).1 = expsP s (s.size + 1 - q) q t
theorem factor_rd {P : Nat → PR} {s : ByteArray} {pos q : Nat} {t : Tm} (h : RdF P s pos q t) (hq : q ≤ s.size) (h94 : pkB s q ≠ 94) : factorP P s pos = (t, true, q) := by
 obtain ⟨h1, h2⟩ := h
 unfold factorP
 rw [if_neg (by rw [h1]; decide), h2, show s.size + 1 - q = (s.size - q) + 1 by omega, expsP_succ, if_neg h94]
theorem facts_rd {s : ByteArray} {f : Nat} {q : Nat} (hqs : q ≤ s.size) (hq1 : begB (pkB s q) = false) (hq2 : pkB s q ≠ 94) (hq3 : pkB s q ≠ 32) : ∀ (l : List Tm) (acc : List Tm) (g pos : Nat),
  (∀ a ∈ l, a.ok = true ∧ ∀ p, pos ≤ p → Txt s p (a.fmt true) → pkB s (p + (a.fmt true).length) ≠ 32 → RdF (termP s f) s p (p + (a.fmt true).length) a) →
  acc ++ l ≠ [] → Txt s pos (fmtL l) → pos + (fmtL l).length = q → s.size - pos < g →
  factsP (termP s f) s g pos acc = (if (acc ++ l).length = 1 then (acc ++ l).getD 0 .zero else .mk 3 0 (acc ++ l), true, q)
 | [], acc, 0, pos, ha, hne, ht, hl, hg => by omega
 | [], acc, g + 1, pos, ha, hne, ht, hl, hg => by
  have hl : pos = q := by simpa [fmtL] using hl
  subst hl
  rw [List.append_nil] at hne ⊢
  rw [factsP_succ, if_neg (by
   rintro (h | h)
   ·exact hne (List.eq_nil_of_length_eq_zero h)
   ·rw [hq1] at h; cases h)]
 | a :: l, acc, 0, pos, ha, hne, ht, hl, hg => by omega
 | a :: l, acc, g + 1, pos, ha, hne, ht, hl, hg => by
  obtain ⟨ho, hr⟩ := ha a (by simp)
  obtain ⟨c, r, ec, hc⟩ := fmt_beg a.sz a (Nat.le_refl _) ho
  have ht : Txt s pos (a.fmt true ++ fmtL l) := ht
  have hl : pos + (a.fmt true ++ fmtL l).length = q := hl
  rw [List.length_append] at hl
  have h1 := ht.left
  have h2 := ht.right
  have hlen : 1 ≤ (a.fmt true).length := by rw [ec]; simp
  obtain ⟨b1, b2, -⟩ := (show Txt s pos (c :: r) by rw [← ec]; exact h1).at
  have hend : pkB s (pos + (a.fmt true).length) ≠ 94 ∧ pkB s (pos + (a.fmt true).length) ≠ 32 := by
   cases l with
   | nil =>
    have : pos + (a.fmt true).length = q := by simpa [fmtL] using hl
    rw [this]; exact ⟨hq2, hq3⟩
   | cons b l =>
    obtain ⟨d, r', ed, hd⟩ := fmt_beg b.sz b (Nat.le_refl _) (ha b (by simp)).1
    have h3 : Txt s (pos + (a.fmt true).length) (b.fmt true ++ fmtL l) := h2
    have h4 := h3.left
    rw [ed] at h4
    rw [h4.at.1]
    exact begB_ne hd
  have hle : pos + (a.fmt true).length ≤ s.size := h1.1
  have hf := factor_rd (hr pos (Nat.le_refl _) h1 hend.2) hle hend.1
  rw [factsP_succ, if_pos (.inr (by rw [b1]; exact hc)), hf]
  simp only [Bool.true_eq_false, if_false]
  rw [skip_id hle hend.2]
  have := facts_rd hqs hq1 hq2 hq3 l (acc ++ [a]) g (pos + (a.fmt true).length) (fun b hb => ⟨(ha b (by simp [hb])).1, fun p hp => (ha b (by simp [hb])).2 p (by omega)⟩) (by simp) h2 (by omega) (by omega)
  rw [this, List.append_assoc]
  rfl
theorem expB_pos (n : Int) : 1 ≤ (expB n).length := by
 unfold expB
 split
 ·simp
 ·split <;> simp
theorem rd_exp {s : ByteArray} {pos : Nat} {n : Int} (h0 : -1 ≤ n) (h9 : n ≤ 9) (h : Txt s pos (expB n)) : pkB s pos = 94 ∧ expS s (pos + 1) = (n, true, pos + (expB n).length) := by
 unfold expB at h ⊢
 by_cases e0 : n = 0
 ·subst e0
  rw [if_pos rfl] at h ⊢
  obtain ⟨a1, -, h⟩ := h.at
  obtain ⟨a2, -, h⟩ := h.at
  refine ⟨a1, ?_⟩
  unfold expS
  rw [if_pos a2]
  rfl
 rw [if_neg e0] at h ⊢
 by_cases e1 : n < 0
 ·obtain rfl : n = -1 := by omega
  rw [if_pos e1] at h ⊢
  obtain ⟨a1, -, h⟩ := h.at
  obtain ⟨a2, -, h⟩ := h.at
  obtain ⟨a3, -, h⟩ := h.at
  obtain ⟨a4, -, h⟩ := h.at
  obtain ⟨a5, -, h⟩ := h.at
  obtain ⟨a6, -, h⟩ := h.at
  refine ⟨a1, ?_⟩
  unfold expS
  rw [if_neg (by omega), if_neg (by omega), if_neg (by omega), if_pos a4, if_neg (by omega), if_neg (by omega)]
  rfl
 ·rw [if_neg e1] at h ⊢
  obtain ⟨a1, -, h⟩ := h.at
  obtain ⟨a2, -, h⟩ := h.at
  obtain ⟨a3, -, h⟩ := h.at
  obtain ⟨a4, -, h⟩ := h.at
  obtain ⟨a5, -, h⟩ := h.at
  obtain ⟨a6, -, h⟩ := h.at
  refine ⟨a1, ?_⟩
  unfold expS
  rw [if_neg (by omega), if_neg (by omega), if_neg (by omega), if_neg (by omega), if_neg (by omega), if_neg (by omega), if_neg (by omega), a5]
  rw [show 48 + n - 48 = n by omega]
  rfl
theorem rd {s : ByteArray} : ∀ (k : Nat) (t : Tm), t.sz ≤ k → t.ok = true → ∀ (f pos : Nat), Txt s pos (t.fmt true) → s.size ≤ f + pos → pkB s (pos + (t.fmt true).length) ≠ 32 → RdF (termP s f) s pos (pos + (t.fmt true).length) t
 | 0, t, hk, ho => by have := sz_pos t; omega
 | k + 1, t, hk, ho => by
  obtain ⟨hw, ha⟩ := ok_parts ho
  intro f pos ht hf h32
  have hle : pos + (t.fmt true).length ≤ s.size := ht.1
  obtain ⟨o, n, l⟩ := t
  rcases wf_cases hw with ⟨h, hn, e⟩ | ⟨h, h0, h1, e⟩ | ⟨h, hn, hl⟩ | ⟨h, hn, hn9, a, e⟩
  ·rw [fmt_1 h] at ht hle h32 ⊢
   obtain ⟨b1, b2, -⟩ := ht.at
   have h : o = 1 := h
   have hn : n = 0 := hn
   have e : l = [] := e
   subst h hn e
   have hat : atomP (termP s f) s pos = (.mk 1 0 [], true, pos + 1) := by
    unfold atomP
    rw [b1, if_neg (by decide), if_pos rfl]
   unfold RdF
   rw [hat]
   refine ⟨rfl, ?_⟩
   rw [skip_id (show pos + 1 ≤ s.size by omega) h32]
   rfl
  ·rw [fmt_2 h] at ht hle h32 ⊢
   obtain ⟨b1, b2, -⟩ := ht.at
   obtain ⟨c1, c2, c3, c4⟩ := name_cases h0 h1
   have h : o = 2 := h
   have e : l = [] := e
   subst h e
   have hat : atomP (termP s f) s pos = (.mk 2 n [], true, pos + 1) := by
    unfold atomP
    rw [b1, if_neg (by rw [c1]; decide), if_neg c3, if_neg c4, c2]
    rfl
   unfold RdF
   rw [hat]
   refine ⟨rfl, ?_⟩
   rw [skip_id (show pos + 1 ≤ s.size by omega) h32]
   rfl
  ·rw [fmt_3 h] at ht hle h32 ⊢
   obtain ⟨b1, b2, h1⟩ := ht.at
   have h : o = 3 := h
   have hn : n = 0 := hn
   subst h hn
   have hl : 2 ≤ l.length := hl
   have ha : ∀ a ∈ l, a.ok = true := ha
   have h1 : Txt s (pos + 1) (fmtL l ++ [41]) := h1
   have h2 := h1.left
   obtain ⟨b3, b4, -⟩ := h1.right.at
   have hle : pos + (40 :: (fmtL l ++ [41])).length ≤ s.size := hle
   rw [List.length_cons, List.length_append] at hle
   obtain ⟨f, rfl⟩ : ∃ g, f = g + 1 := ⟨f - 1, by omega⟩
   have hsk : pkB s (pos + 1) ≠ 32 := by
    cases l with
    | nil => simp at hl
    | cons a l =>
     obtain ⟨d, r', ed, hd⟩ := fmt_beg a.sz a (Nat.le_refl _) (ha a (by simp))
     have h4 : Txt s (pos + 1) (a.fmt true ++ fmtL l) := h2
     have h4 := h4.left
     rw [ed] at h4
     rw [h4.at.1]
     exact (begB_ne hd).2
   have hfa := facts_rd (s := s) (f := f) (q := pos + 1 + (fmtL l).length) (by omega) (by rw [b3]; decide) (by rw [b3]; decide) (by rw [b3]; decide) l [] (s.size + 2 - (pos + 1)) (pos + 1) (fun a hm => ⟨ha a hm, fun p hp hx hy => by
    have : a.sz < (Tm.mk 3 0 l).sz := sz_arg hm
    exact rd k a (by omega) (ha a hm) f p hx (by omega) hy⟩) (by intro h; rw [List.nil_append] at h; rw [h] at hl; simp at hl) h2 rfl (by omega)
   rw [List.nil_append, if_neg (by omega)] at hfa
   have htm : termP s (f + 1) (pos + 1) = (.mk 3 0 l, true, pos + 1 + (fmtL l).length) := by
    rw [termP_succ, skip_id (by omega) hsk, hfa]
   have hat : atomP (termP s (f + 1)) s pos = (.mk 3 0 l, true, pos + 1 + (fmtL l).length + 1) := by
    unfold atomP
    rw [b1, if_neg (by decide), if_neg (by decide), if_pos rfl, htm]
    simp only [Bool.true_eq_false, if_false]
    rw [if_pos b3]
   have hq : pos + (40 :: (fmtL (Tm.mk 3 0 l).args ++ [41])).length = pos + 1 + (fmtL l).length + 1 := by
    show pos + (40 :: (fmtL l ++ [41])).length = _
    rw [List.length_cons, List.length_append, List.length_singleton]; omega
   rw [hq] at h32 ⊢
   unfold RdF
   rw [hat]
   refine ⟨rfl, ?_⟩
   rw [skip_id (show pos + 1 + (fmtL l).length + 1 ≤ s.size by simp only [List.length_singleton] at hle; omega) h32]
  ·rw [fmt_4 h e] at ht hle h32 ⊢
   have h : o = 4 := h
   have e : l = [a] := e
   have hn : -1 ≤ n := hn
   have hn9 : n ≤ 9 := hn9
   subst h e
   have ha : ∀ b ∈ [a], b.ok = true := ha
   have ha := ha a (by simp)
   have hsz : a.sz < (Tm.mk 4 n [a]).sz := sz_arg (t := .mk 4 n [a]) (by show a ∈ [a]; simp)
   have ht : Txt s pos (a.fmt true ++ expB n) := ht
   have h32 : pkB s (pos + (a.fmt true ++ expB n).length) ≠ 32 := h32
   have hle : pos + (a.fmt true ++ expB n).length ≤ s.size := hle
   show RdF (termP s f) s pos (pos + (a.fmt true ++ expB n).length) _
   rw [List.length_append] at h32 hle ⊢
   obtain ⟨b1, b2⟩ := rd_exp (n := n) hn hn9 ht.right
   obtain ⟨r1, r2⟩ := rd k a (by omega) ha f pos ht.left hf (by rw [b1]; decide)
   refine ⟨r1, ?_⟩
   have hpos := expB_pos n
   rw [r2, show s.size + 1 - (pos + (a.fmt true).length) = (s.size - (pos + (a.fmt true).length)) + 1 by omega, expsP_succ, if_pos b1, b2]
   simp only [Bool.true_eq_false, if_false]
   rw [← Nat.add_assoc] at h32 ⊢
   rw [skip_id (by omega) h32]
   exact expsP_fuel _ _ _ _ (by omega) (by omega) (by omega)
end Go.Proofs.YtghnmmfkckneaaaGreat.M
