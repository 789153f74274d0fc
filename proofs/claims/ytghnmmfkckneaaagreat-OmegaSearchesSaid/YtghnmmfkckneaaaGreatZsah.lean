/-
  Walks in my logic: letter, Same, Find, Discrete, Compose.
  Walks in my logic: Find, Discrete, Copy.
  Walks in my logic: Discrete, Compose, Copy.
  Walks in my logic: Copy, Word, Valid, MayGens.
  Terms with omega powers as trees of the logic (layer 28).
  Walks in my logic: which terms are valid (omega, ref28).
-/
import Derived.Test.YtghnmmfkckneaaaGreatZsag
import Derived.Test.YtghnmmfkckneaaaGreatZsaf
namespace Go.Proofs.YtghnmmfkckneaaaGreat.M
open Go.RowKit
set_option linter.unusedVariables false
set_option maxRecDepth 100000
set_option maxHeartbeats 32000000
set_option linter.unusedSimpArgs false

def ints (xs : List Int) : T := .sl 1 (xs.map (.int .i64))
def rows (xss : List (List Int)) : T := .sl 1 (xss.map ints)
theorem wr64 (x : Int) (h1 : -9223372036854775808 ≤ x) (h2 : x ≤ 9223372036854775807) : IntKind.i64.wrap x = x := by rw [IntKind.wrap_i64]; omega
theorem wr8 (x : Int) (h1 : 0 ≤ x) (h2 : x ≤ 255) : IntKind.u8.wrap x = x := by rw [IntKind.wrap_u8]; omega
def strL (ls : List Nat) : ByteArray := ⟨(ls.map fun x => UInt8.ofNat (97 + x)).toArray⟩
theorem letter_fn (x : Nat) (hx : x ≤ 20) : FnA Tryz.prog 116 [.t 2 (.int .i64 x)] (.t 2 (.str (strL [x]))) := by
 refine fn_intro Tryz.func116 rfl (by simp [Tryz.f116]) ?_
 rw [show Tryz.f116.ntmps = 8 from rfl, show Tryz.f116.results = #[.tmp 2] from rfl]
 refine rgS fun K hK => ?_
 simp (disch := omega) [ints, rows, scal, wr64, wr8]
 and_intros <;> try first | apply hK | omega | rfl | simp <;> omega
 refine rgS fun K hK => ?_
 simp (disch := omega) [ints, rows, scal, wr64, wr8, isU8]
 and_intros <;> try first | apply hK | omega | rfl | simp <;> omega
 refine awp_ret ?_
 refine ⟨⟨.inr rfl, _, [], rfl, trivial, trivial, by simp, ?_⟩, by simp⟩
 simp
 have : (97 + (x : Int)).toNat = 97 + x := by omega
 try rw [wr64 _ (by omega) (by omega), wr8 _ (by omega) (by omega)]
 simp [bytesT, u8n, strL, this]
 rfl
theorem same_fn (xs ys : List Int) (hx : xs.length ≤ 1000000) : FnA Tryz.prog 30 [.t 0 (ints xs), .t 0 (ints ys)] (.t 2 (.bool (decide (xs = ys)))) := by
 refine fn_intro Tryz.func30 rfl (by simp [Tryz.f30]) ?_
 rw [show Tryz.f30.ntmps = 26 from rfl, show Tryz.f30.results = #[.tmp 4] from rfl]
 refine rgS fun K hK => ?_
 simp (disch := omega) [ints, rows, scal, wr64, wr8]
 and_intros <;> try first | apply hK | omega | rfl | simp <;> omega
 refine awp_seq ?_
 by_cases hl : xs.length = ys.length
 case neg =>
  refine rgS fun K hK => ?_
  simp (disch := omega) [ints, rows, scal, wr64, wr8]
  and_intros <;> try first | apply hK | omega | rfl | simp <;> omega
  refine condT (by simp [scal] <;> omega) ?_
  refine rgS fun K hK => ?_
  simp (disch := omega) [ints, rows, scal, wr64, wr8]
  and_intros <;> try first | apply hK | omega | rfl | simp <;> omega
  refine awp_ret ?_
  refine ⟨⟨.inr rfl, _, [], rfl, trivial, trivial, by simp, ?_⟩, by simp⟩
  simp
  intro h; exact hl (by rw [h])
 refine rgS fun K hK => ?_
 simp (disch := omega) [ints, rows, scal, wr64, wr8]
 and_intros <;> try first | apply hK | omega | rfl | simp <;> omega
 refine condF (by simp [scal] <;> omega) ?_
 refine awp_skip ?_
 refine awp_seq ?_
 refine rgS fun K hK => ?_
 simp (disch := omega) [ints, rows, scal, wr64, wr8]
 and_intros <;> try first | apply hK | omega | rfl | simp <;> omega
 refine awp_block ?_
 refine awp_loop (fun k : Nat => mkS [(0, .t 0 (ints xs)), (1, .t 0 (ints ys)), (12, .t 2 (.int .i64 xs.length)), (13, .t 2 (.int .i64 k))] [] 0 26 [.any, .any]) (fun k => k ≤ xs.length ∧ ∀ i (h1 : i < xs.length) (h2 : i < ys.length), i < k → xs[i] = ys[i]) (fun k => xs.length - k) ?_ ?_
 ·refine ⟨0, ⟨by omega, fun i h1 h2 h => by omega⟩, ?_⟩
  refine wk_list [] rfl ?_ ?_ ?_ ?_
  all_goals try simp [ints]
 ·intro k hk
  obtain ⟨hk, hall⟩ := hk
  refine rgS fun K hK => ?_
  simp (disch := omega) [ints, rows, scal, wr64, wr8]
  (repeat' first | apply hK | apply And.intro) <;> try first | omega | rfl | (simp <;> omega)
  by_cases hlt : k < xs.length
  ·have hlt2 : k < ys.length := by omega
   refine awp_seq ?_
   refine condT (by simp [scal, hlt] <;> omega) ?_
   refine awp_skip ?_
   refine awp_seq ?_
   refine awp_block ?_
   refine rgS fun K hK => ?_
   simp (disch := omega) [ints, rows, scal, wr64, wr8]
   (repeat' first | apply hK | apply And.intro) <;> try first | omega | rfl | (simp <;> omega)
   by_cases he : xs[k] = ys[k]
   ·refine awp_seqD (by kernel_rfl) (fun K hK => ?_)
    simp (disch := omega) [ints, rows, scal, wr64, wr8, hlt, hlt2, he]
    and_intros <;> try first | apply hK | (show chkD _ _ = true; kernel_rfl) | omega | rfl | simp <;> omega
    refine condF (by simp [scal] <;> omega) ?_
    refine awp_skip ?_
    show awp _ _ _ _
    refine rgL fun K hK => ?_
    simp (disch := omega) [ints, rows, scal, wr64, wr8]
    (repeat' first | apply hK | apply And.intro) <;> try first | omega | rfl | (simp <;> omega)
    refine ⟨k + 1, ⟨by omega, fun i h1 h2 h => ?_⟩, by omega, ?_⟩
    ·by_cases e : i = k
     ·subst e; exact he
     ·exact hall i h1 h2 (by omega)
    ·refine wk_list [] rfl ?_ ?_ ?_ ?_
     all_goals try simp [ints]
   ·refine awp_seqD (by kernel_rfl) (fun K hK => ?_)
    simp (disch := omega) [ints, rows, scal, wr64, wr8, hlt, hlt2, he]
    and_intros <;> try first | apply hK | (show chkD _ _ = true; kernel_rfl) | omega | rfl | simp <;> omega
    refine condT (by simp [scal] <;> omega) ?_
    refine rgS fun K hK => ?_
    simp (disch := omega) [ints, rows, scal, wr64, wr8]
    and_intros <;> try first | apply hK | omega | rfl | simp <;> omega
    refine awp_ret ?_
    show resQ _ _ _ _ _ _ ∧ _
    refine ⟨⟨.inr rfl, _, [], rfl, trivial, trivial, by simp, ?_⟩, by simp⟩
    simp
    intro h; exact he (by simp only [h])
  ·refine awp_seq ?_
   refine condF (by simp [scal, hlt] <;> omega) ?_
   refine awp_exit ?_
   show awp _ _ _ _
   refine rgS fun K hK => ?_
   simp (disch := omega) [ints, rows, scal, wr64, wr8]
   and_intros <;> try first | apply hK | omega | rfl | simp <;> omega
   refine awp_ret ?_
   refine ⟨⟨.inr rfl, _, [], rfl, trivial, trivial, by simp, ?_⟩, by simp⟩
   simp
   exact List.ext_getElem hl (fun i h1 h2 => hall i h1 h2 (by omega))

set_option maxRecDepth 100000
set_option maxHeartbeats 32000000
attribute [local simp] ints rows scal wr64 wr8
set_option linter.unusedSimpArgs false

def fIdx (xss : List (List Int)) (f : List Int) : Int := match xss.findIdx? (fun x => decide (x = f)) with
 | some i => i
 | none => -1
theorem fIdx_at {xss : List (List Int)} {f : List Int} {k : Nat} (hk : k < xss.length) (he : xss[k] = f) (hn : ∀ i (h : i < xss.length), i < k → xss[i] ≠ f) : fIdx xss f = k := by
 unfold fIdx
 have : xss.findIdx? (fun x => decide (x = f)) = some k := by
  rw [List.findIdx?_eq_some_iff_getElem]
  refine ⟨hk, by simpa using he, fun j hj => by simpa using hn j (by omega) hj⟩
 rw [this]
theorem fIdx_no {xss : List (List Int)} {f : List Int} (hn : ∀ i (h : i < xss.length), xss[i] ≠ f) : fIdx xss f = -1 := by
 unfold fIdx
 have : xss.findIdx? (fun x => decide (x = f)) = none := by
  rw [List.findIdx?_eq_none_iff]
  intro x hx
  obtain ⟨i, hi, rfl⟩ := List.getElem_of_mem hx
  simpa using hn i hi
 rw [this]
theorem find_fn (xss : List (List Int)) (f : List Int) (hx : xss.length ≤ 1000000) (hl : ∀ x ∈ xss, x.length ≤ 1000000) : FnA Tryz.prog 99 [.t 0 (rows xss), .t 0 (ints f)] (.t 2 (.int .i64 (fIdx xss f))) := by
 refine fn_intro Tryz.func99 rfl (by simp [Tryz.f99]) ?_
 rw [show Tryz.f99.ntmps = 19 from rfl, show Tryz.f99.results = #[.tmp 4] from rfl]
 refine rgS fun K hK => ?_
 simp (disch := omega)
 and_intros <;> try first | apply hK | omega | rfl | simp <;> omega
 refine awp_seq ?_
 refine rgS fun K hK => ?_
 simp (disch := omega)
 and_intros <;> try first | apply hK | omega | rfl | simp <;> omega
 refine awp_block ?_
 refine awp_loop (fun k : Nat => mkS [(0, .t 0 (rows xss)), (1, .t 0 (ints f)), (7, .t 2 (.int .i64 xss.length)), (8, .t 2 (.int .i64 k))] [] 0 19 [.any, .any]) (fun k => k ≤ xss.length ∧ ∀ i (h : i < xss.length), i < k → xss[i] ≠ f) (fun k => xss.length - k) ?_ ?_
 ·refine ⟨0, ⟨by omega, fun i h1 h => by omega⟩, ?_⟩
  refine wk_list [] rfl ?_ ?_ ?_ ?_
  all_goals try simp
 ·intro k hk
  obtain ⟨hk, hall⟩ := hk
  refine rgS fun K hK => ?_
  simp (disch := omega)
  (repeat' first | apply hK | apply And.intro) <;> try first | omega | rfl | (simp <;> omega)
  by_cases hlt : k < xss.length
  ·refine awp_seq ?_
   refine condT (by simp [hlt] <;> omega) ?_
   refine awp_skip ?_
   refine awp_seq ?_
   refine awp_block ?_
   refine rgS fun K hK => ?_
   simp (disch := omega)
   and_intros <;> try first | apply hK | omega | rfl | simp <;> omega
   refine rgS fun K hK => ?_
   simp (disch := omega) [hlt]
   (repeat' apply And.intro)
   all_goals (try omega)
   refine call_rule (caps := []) (same_fn xss[k] f (hl _ (by simp))) [] [] 2 rfl rfl rfl rfl (by kernel_rfl) (by simp) ?_ ?_ ?_ rfl ?_ ?_ (by simp) ?_
   ·simp
   ·trivial
   ·trivial
   ·trivial
   ·trivial
   simp (disch := omega)
   (repeat' first | apply hK | apply And.intro) <;> try first | omega | rfl | (simp <;> omega)
   by_cases he : xss[k] = f
   ·refine condT (by simp [he] <;> omega) ?_
    refine rgS fun K hK => ?_
    simp (disch := omega)
    and_intros <;> try first | apply hK | omega | rfl | simp <;> omega
    refine awp_ret ?_
    show resQ _ _ _ _ _ _ ∧ _
    refine ⟨⟨.inr rfl, _, [], rfl, trivial, trivial, by simp, ?_⟩, by simp⟩
    simp
    exact (fIdx_at hlt he hall).symm
   ·refine condF (by simp [he] <;> omega) ?_
    refine awp_skip ?_
    show awp _ _ _ _
    refine rgL fun K hK => ?_
    simp (disch := omega)
    (repeat' first | apply hK | apply And.intro) <;> try first | omega | rfl | (simp <;> omega)
    refine ⟨k + 1, ⟨by omega, fun i h1 h => ?_⟩, by omega, ?_⟩
    ·by_cases e : i = k
     ·subst e; exact he
     ·exact hall i h1 (by omega)
    ·refine wk_list [] rfl ?_ ?_ ?_ ?_
     all_goals try simp
  ·refine awp_seq ?_
   refine condF (by simp [hlt] <;> omega) ?_
   refine awp_exit ?_
   show awp _ _ _ _
   refine rgS fun K hK => ?_
   simp (disch := omega)
   and_intros <;> try first | apply hK | omega | rfl | simp <;> omega
   refine awp_ret ?_
   refine ⟨⟨.inr rfl, _, [], rfl, trivial, trivial, by simp, ?_⟩, by simp⟩
   simp
   exact (fIdx_no (fun i hi => hall i hi (by omega))).symm

set_option maxRecDepth 100000
set_option maxHeartbeats 32000000
attribute [local simp] ints rows scal wr64 wr8
set_option linter.unusedSimpArgs false

@[simp] theorem tab_elem {α : Type} {n : Nat} (F : Nat → α) {k : Nat} (h : k < (tab n F).length) : (tab n F)[k] = F k := by simp [tab]
theorem tab_map {α β : Type} (n : Nat) (F : Nat → α) (g : α → β) : (tab n F).map g = tab n (fun i => g (F i)) := by simp [tab, Function.comp_def]
theorem tab_set {α : Type} {n : Nat} (F : Nat → α) (k : Nat) (x : α) : (tab n F).set k x = tab n (fun i => if i = k then x else F i) := by
 apply List.ext_getElem?
 intro i
 rw [List.getElem?_set]
 by_cases hi : i < n
 ·rw [tab_get _ hi]
  by_cases e : k = i
  ·subst e; rw [if_pos rfl, if_pos (by simpa using hi), tab_get _ hi, if_pos rfl]
  ·rw [if_neg e, tab_get _ hi, if_neg (Ne.symm e)]
 ·rw [List.getElem?_eq_none (by simp; omega)]
  by_cases e : k = i
  ·subst e; simp [hi]
  ·rw [if_neg e, List.getElem?_eq_none (by simp; omega)]
theorem tab_congr {α : Type} {n : Nat} {F G : Nat → α} (h : ∀ i, i < n → F i = G i) : tab n F = tab n G := by
 unfold tab
 exact List.map_congr_left (fun i hi => h i (List.mem_range.1 hi))
theorem rep_tab {α : Type} (n : Nat) (x : α) : List.replicate n x = tab n (fun _ => x) := by
 apply List.ext_getElem?
 intro i
 by_cases h : i < n
 ·rw [tab_get _ h]; simp [h]
 ·rw [List.getElem?_eq_none (by simp; omega), List.getElem?_eq_none (by simp; omega)]
theorem tab_succ {α : Type} (n : Nat) (F : Nat → α) : tab (n + 1) F = tab n F ++ [F n] := by simp [tab, List.range_succ]
theorem discrete_fn (n : Nat) (hn : n ≤ 1000000) : FnA Tryz.prog 38 [.t 2 (.int .i64 n)] (.t 2 (ints (tab n fun i => (i : Int)))) := by
 refine fn_intro Tryz.func38 rfl (by simp [Tryz.f38]) ?_
 rw [show Tryz.f38.ntmps = 18 from rfl, show Tryz.f38.results = #[.tmp 2] from rfl]
 refine rgS fun K hK => ?_
 simp (disch := omega)
 and_intros <;> try first | apply hK | omega | rfl | simp <;> omega
 refine rgS fun K hK => ?_
 simp (disch := omega)
 and_intros <;> try first | apply hK | omega | rfl | simp <;> omega
 refine awp_seq ?_
 refine rgS fun K hK => ?_
 simp (disch := omega)
 and_intros <;> try first | apply hK | omega | rfl | simp <;> omega
 refine awp_block ?_
 refine awp_loop (fun k : Nat => mkS [(3, .own 0 n), (8, .t 2 (.int .i64 n)), (9, .t 2 (.int .i64 k))] [(0, .row 3 1 2 (tab n fun i => .int .i64 (if i < k then (i : Int) else 0)))] 1 18 [.any]) (fun k => k ≤ n) (fun k => n - k) ?_ ?_
 ·refine ⟨0, by omega, ?_⟩
  refine wk_list [(0, some 2000000)] rfl ?_ ?_ ?_ ?_
  all_goals try simp [rep_tab]
 ·intro k hk
  refine rgS fun K hK => ?_
  simp (disch := omega)
  (repeat' first | apply hK | apply And.intro) <;> try first | omega | rfl | (simp <;> omega)
  by_cases hlt : k < n
  ·refine awp_seq ?_
   refine condT (by simp [hlt] <;> omega) ?_
   refine awp_skip ?_
   refine awp_seq ?_
   refine awp_block ?_
   refine rgS fun K hK => ?_
   simp (disch := omega)
   and_intros <;> try first | apply hK | omega | rfl | simp <;> omega
   refine rgL fun K hK => ?_
   simp (disch := omega) [hlt]
   and_intros <;> try first | apply hK | omega | rfl | simp <;> omega
   show awp _ _ _ _
   refine rgL fun K hK => ?_
   simp (disch := omega)
   (repeat' first | apply hK | apply And.intro) <;> try first | omega | rfl | (simp <;> omega)
   refine ⟨k + 1, by omega, by omega, ?_⟩
   refine wk_list [(0, some 0)] rfl ?_ ?_ ?_ ?_
   all_goals try simp
   rw [tab_set]
   refine tab_congr (fun i hi => ?_)
   by_cases e : i = k
   ·simp [e]
   ·rw [if_neg e]
    by_cases e2 : i < k
    ·rw [if_pos e2, if_pos (by omega)]
    ·rw [if_neg e2, if_neg (by omega)]
  ·refine awp_seq ?_
   refine condF (by simp [hlt] <;> omega) ?_
   refine awp_exit ?_
   show awp _ _ _ _
   refine rgS fun K hK => ?_
   simp (disch := omega)
   and_intros <;> try first | apply hK | omega | rfl | simp <;> omega
   refine awp_ret ?_
   refine ⟨⟨.inr rfl, _, [], rfl, trivial, trivial, by simp, ?_⟩, by simp⟩
   simp
   rw [tab_map]
   exact tab_congr (fun i hi => by rw [if_pos (by omega)])
theorem compose_fn (n : Nat) (f : Nat → Nat) (m : Nat) (g : Nat → Int) (hn : n ≤ 1000000) (hf : ∀ i, i < n → f i < m) : FnA Tryz.prog 124 [.t 0 (ints (tab n fun i => (f i : Int))), .t 0 (ints (tab m g))] (.t 2 (ints (tab n fun i => g (f i)))) := by
 refine fn_intro Tryz.func124 rfl (by simp [Tryz.f124]) ?_
 rw [show Tryz.f124.ntmps = 27 from rfl, show Tryz.f124.results = #[.tmp 4] from rfl]
 refine rgS fun K hK => ?_
 simp (disch := omega)
 and_intros <;> try first | apply hK | omega | rfl | simp <;> omega
 refine rgS fun K hK => ?_
 simp (disch := omega)
 and_intros <;> try first | apply hK | omega | rfl | simp <;> omega
 refine awp_seq ?_
 refine rgS fun K hK => ?_
 simp (disch := omega)
 and_intros <;> try first | apply hK | omega | rfl | simp <;> omega
 refine awp_block ?_
 refine awp_loop (fun k : Nat => mkS [(1, .t 0 (ints (tab m g))), (5, .own 0 n), (11, .t 0 (ints (tab n fun i => (f i : Int)))), (12, .t 2 (.int .i64 n)), (13, .t 2 (.int .i64 k))] [(0, .row 3 1 2 (tab n fun i => .int .i64 (if i < k then g (f i) else 0)))] 1 27 [.any, .any]) (fun k => k ≤ n) (fun k => n - k) ?_ ?_
 ·refine ⟨0, by omega, ?_⟩
  refine wk_list [(0, some 3000000)] rfl ?_ ?_ ?_ ?_
  all_goals try simp [rep_tab]
 ·intro k hk
  refine rgS fun K hK => ?_
  simp (disch := omega)
  (repeat' first | apply hK | apply And.intro) <;> try first | omega | rfl | (simp <;> omega)
  by_cases hlt : k < n
  ·refine awp_seq ?_
   refine condT (by simp [hlt] <;> omega) ?_
   refine awp_skip ?_
   refine awp_seq ?_
   refine awp_block ?_
   refine rgS fun K hK => ?_
   simp (disch := omega) [hlt, tab_elem]
   (repeat' first | apply hK | apply And.intro) <;> try first | omega | rfl | (simp <;> omega)
   have hfk := hf k hlt
   refine rgL fun K hK => ?_
   simp (disch := omega) [hlt, hfk, tab_elem]
   and_intros <;> try first | apply hK | omega | rfl | simp <;> omega
   show awp _ _ _ _
   refine rgL fun K hK => ?_
   simp (disch := omega)
   (repeat' first | apply hK | apply And.intro) <;> try first | omega | rfl | (simp <;> omega)
   refine ⟨k + 1, by omega, by omega, ?_⟩
   refine wk_list [(0, some 0)] rfl ?_ ?_ ?_ ?_
   all_goals try simp
   rw [tab_set]
   refine tab_congr (fun i hi => ?_)
   by_cases e : i = k
   ·simp [e]
   ·rw [if_neg e]
    by_cases e2 : i < k
    ·rw [if_pos e2, if_pos (by omega)]
    ·rw [if_neg e2, if_neg (by omega)]
  ·refine awp_seq ?_
   refine condF (by simp [hlt] <;> omega) ?_
   refine awp_exit ?_
   show awp _ _ _ _
   refine rgS fun K hK => ?_
   simp (disch := omega)
   and_intros <;> try first | apply hK | omega | rfl | simp <;> omega
   refine awp_ret ?_
   refine ⟨⟨.inr rfl, _, [], rfl, trivial, trivial, by simp, ?_⟩, by simp⟩
   simp
   rw [tab_map]
   exact tab_congr (fun i hi => by rw [if_pos (by omega)])

set_option maxRecDepth 100000
set_option maxHeartbeats 32000000
attribute [local simp] ints rows scal wr64 wr8
set_option linter.unusedSimpArgs false

theorem fn_introE {P : Program} {f : FuncId} {fn : Func} {c : Code} {args : List AV} {H H' : List AObj} {G : AV → Prop} (hf : P.funcs[f]? = some fn) (hb : fn.body = some c) (hle : args.length ≤ fn.ntmps) (h : awp P c (fun e σ => ∃ res, G res ∧ resQ P fn.results.toList res H' e σ ∧ σ.gh = ghA args) (argS args H fn.ntmps)) : ∃ res, G res ∧ FnS P f args H res H' := by
 obtain ⟨e, σ', h1, res, hG, h2⟩ := h
 exact ⟨res, hG, fn_intro hf hb hle ⟨e, σ', h1, h2⟩⟩
theorem copy_fn (xss : List (List Int)) (hn : xss.length ≤ 1000000) (hl : ∀ x ∈ xss, x.length ≤ 1000000) : FnA Tryz.prog 123 [.t 0 (rows xss)] (.t 2 (rows xss)) := by
 refine fn_intro Tryz.func123 rfl (by simp [Tryz.f123]) ?_
 rw [show Tryz.f123.ntmps = 20 from rfl, show Tryz.f123.results = #[.tmp 2] from rfl]
 refine rgS fun K hK => ?_
 simp (disch := omega)
 and_intros <;> try first | apply hK | omega | rfl | simp <;> omega
 refine rgS fun K hK => ?_
 simp (disch := omega)
 and_intros <;> try first | apply hK | omega | rfl | simp <;> omega
 refine awp_seq ?_
 refine rgS fun K hK => ?_
 simp (disch := omega)
 and_intros <;> try first | apply hK | omega | rfl | simp <;> omega
 refine awp_block ?_
 refine awp_loop (fun k : Nat => mkS [(3, .own 0 k), (6, .t 0 (rows xss)), (7, .t 2 (.int .i64 xss.length)), (8, .t 2 (.int .i64 k))] [(0, .row 22 1 2 ((xss.take k).map ints))] 1 20 [.any]) (fun k => k ≤ xss.length) (fun k => xss.length - k) ?_ ?_
 ·refine ⟨0, by omega, ?_⟩
  refine wk_list [(0, none)] rfl ?_ ?_ ?_ ?_
  all_goals try simp
 ·intro k hk
  refine rgS fun K hK => ?_
  simp (disch := omega)
  (repeat' first | apply hK | apply And.intro) <;> try first | omega | rfl | (simp <;> omega)
  by_cases hlt : k < xss.length
  ·have hlk := hl xss[k] (by simp)
   refine awp_seq ?_
   refine condT (by simp [hlt] <;> omega) ?_
   refine awp_skip ?_
   refine awp_seq ?_
   refine awp_block ?_
   refine rgS fun K hK => ?_
   simp (disch := omega) [hlt]
   and_intros <;> try first | apply hK | omega | rfl | simp <;> omega
   refine rgL fun K hK => ?_
   simp (disch := omega) [hlt]
   and_intros <;> try first | apply hK | omega | rfl | simp <;> omega
   show awp _ _ _ _
   refine rgL fun K hK => ?_
   simp (disch := omega)
   (repeat' first | apply hK | apply And.intro) <;> try first | omega | rfl | (simp <;> omega)
   refine ⟨k + 1, by omega, by omega, ?_⟩
   refine wk_list [(0, some 0)] rfl ?_ ?_ ?_ ?_
   all_goals try simp
   rw [List.take_succ_eq_append_getElem (by simpa using hlt)]
   simp
  ·refine awp_seq ?_
   refine condF (by simp [hlt] <;> omega) ?_
   refine awp_exit ?_
   show awp _ _ _ _
   refine rgS fun K hK => ?_
   simp (disch := omega)
   and_intros <;> try first | apply hK | omega | rfl | simp <;> omega
   refine awp_ret ?_
   refine ⟨⟨.inr rfl, _, [], rfl, trivial, trivial, by simp, ?_⟩, by simp⟩
   simp
   have : k = xss.length := by omega
   subst this
   simp
   rw [List.take_of_length_le (by simp)]

inductive Tm where
 | mk (op n : Int) (args : List Tm)
instance : Inhabited Tm := ⟨.mk 0 0 []⟩
def Tm.op : Tm → Int
 | .mk o _ _ => o
def Tm.n : Tm → Int
 | .mk _ n _ => n
def Tm.args : Tm → List Tm
 | .mk _ _ a => a
mutual
def Tm.cells : Tm → List T
 | .mk o n l => [.int .i64 o, .int .i64 n, .sl 3 (cellsL l)]
def cellsL : List Tm → List T
 | [] => []
 | a :: r => a.cells ++ cellsL r
end
mutual
def Tm.sz : Tm → Nat
 | .mk _ _ l => 1 + szL l
def szL : List Tm → Nat
 | [] => 0
 | a :: r => a.sz + szL r
end
theorem Tm.cells_eq (t : Tm) : t.cells = [.int .i64 t.op, .int .i64 t.n, .sl 3 (cellsL t.args)] := by
 cases t; rfl
@[simp] theorem Tm.cells_len (t : Tm) : t.cells.length = 3 := by rw [Tm.cells_eq]; rfl
@[simp] theorem cellsL_len : ∀ l : List Tm, (cellsL l).length = l.length * 3
 | [] => rfl
 | a :: r => by
  show (a.cells ++ cellsL r).length = _
  rw [List.length_append, Tm.cells_len, cellsL_len r, List.length_cons]
  omega
theorem cellsL_app : ∀ l r : List Tm, cellsL (l ++ r) = cellsL l ++ cellsL r
 | [], r => rfl
 | a :: l, r => by
  show a.cells ++ cellsL (l ++ r) = (a.cells ++ cellsL l) ++ cellsL r
  rw [cellsL_app l r, List.append_assoc]
theorem cellsL_cut : ∀ (l : List Tm) (i : Nat) (h : i < l.length), ((cellsL l).drop (i * 3)).take 3 = l[i].cells
 | a :: l, 0, h => by
  show ((a.cells ++ cellsL l).drop 0).take 3 = a.cells
  rw [List.drop_zero]
  exact List.take_left' (by simp)
 | a :: l, i + 1, h => by
  show ((a.cells ++ cellsL l).drop ((i + 1) * 3)).take 3 = (l[i]'(by simpa using h)).cells
  rw [show (i + 1) * 3 = a.cells.length + i * 3 by simp; omega, List.drop_append]
  simp only [List.drop_eq_nil_of_le (show a.cells.length ≤ a.cells.length + i * 3 by omega), List.nil_append, Nat.add_sub_cancel_left]
  exact cellsL_cut l i (by simpa using h)
theorem sz_eq (t : Tm) : t.sz = 1 + szL t.args := by cases t; rfl
theorem szL_mem : ∀ {l : List Tm} {a : Tm}, a ∈ l → a.sz ≤ szL l
 | b :: l, a, h => by
  show a.sz ≤ b.sz + szL l
  rcases List.mem_cons.1 h with rfl | h
  ·omega
  ·have := szL_mem h; omega
theorem szL_app : ∀ l r : List Tm, szL (l ++ r) = szL l + szL r
 | [], r => by show szL r = 0 + szL r; omega
 | a :: l, r => by
  show a.sz + szL (l ++ r) = (a.sz + szL l) + szL r
  rw [szL_app l r]; omega
theorem sz_arg {t a : Tm} (h : a ∈ t.args) : a.sz < t.sz := by
 have := szL_mem h
 rw [sz_eq t]; omega
theorem sz_pos (t : Tm) : 0 < t.sz := by rw [sz_eq]; omega
def Tm.wf (t : Tm) : Bool := decide ((t.op = 1 ∧ t.n = 0 ∧ t.args.length = 0) ∨ (t.op = 2 ∧ 0 ≤ t.n ∧ t.n < 6 ∧ t.args.length = 0) ∨ (t.op = 3 ∧ t.n = 0 ∧ 2 ≤ t.args.length) ∨ (t.op = 4 ∧ -1 ≤ t.n ∧ t.n ≤ 9 ∧ t.args.length = 1))
mutual
def Tm.ok : Tm → Bool
 | .mk o n l => Tm.wf (.mk o n l) && okL' l
def okL' : List Tm → Bool
 | [] => true
 | a :: r => a.ok && okL' r
end
theorem ok_eq (t : Tm) : t.ok = (t.wf && okL' t.args) := by cases t; rfl
theorem okL'_app : ∀ l r : List Tm, okL' (l ++ r) = (okL' l && okL' r)
 | [], r => by show okL' r = (true && okL' r); simp
 | a :: l, r => by
  show (a.ok && okL' (l ++ r)) = ((a.ok && okL' l) && okL' r)
  rw [okL'_app l r, Bool.and_assoc]
def tmV (p : Nat) (t : Tm) : AV := .agg [.t 2 (.int .i64 t.op), .t 2 (.int .i64 t.n), .t p (.sl 3 (cellsL t.args))]
def Tm.val (t : Tm) : Bool := t.ok && decide (t.sz ≤ 60)
end Go.Proofs.YtghnmmfkckneaaaGreat.M

namespace Go.Proofs.YtghnmmfkckneaaaGreat.M
open Go.RowKit
set_option linter.unusedVariables false
set_option maxRecDepth 100000
set_option maxHeartbeats 32000000
attribute [local simp] ints rows scal wr64 wr8
set_option linter.unusedSimpArgs false

theorem wellFormed_fn (t : Tm) : FnA Tryz.prog 109 [tmV 0 t] (.t 2 (.bool t.wf)) := by
 obtain ⟨o, n, as_⟩ := t
 refine fn_intro Tryz.func109 rfl (by simp [Tryz.f109]) ?_
 rw [show Tryz.f109.ntmps = 59 from rfl, show Tryz.f109.results = #[.tmp 2] from rfl]
 refine rgS fun K hK => ?_
 simp (disch := omega) [tmV, Tm.op, Tm.n, Tm.args]
 and_intros <;> try first | apply hK | omega | rfl | simp <;> omega
 refine awp_seq ?_
 refine rgS fun K hK => ?_
 simp (disch := omega)
 and_intros <;> try first | apply hK | omega | rfl | simp <;> omega
 refine awp_block ?_
 refine rgS fun K hK => ?_
 simp (disch := omega)
 (repeat' first | apply hK | apply And.intro) <;> try first | omega | rfl | (simp <;> omega)
 by_cases h1 : o = 1
 ·refine condT (by simp [h1] <;> omega) ?_
  by_cases hn : n = 0
  ·refine rgS fun K hK => ?_
   simp (disch := omega) [hn]
   (repeat' first | apply hK | apply And.intro) <;> try first | omega | rfl | (simp <;> omega)
   all_goals (refine awp_ret ?_; refine ⟨⟨.inr rfl, _, [], rfl, trivial, trivial, by simp [tmV, Tm.wf, Tm.op, Tm.n, Tm.args, h1, hn], ?_⟩, by simp [tmV, Tm.wf, Tm.op, Tm.n, Tm.args, h1, hn]⟩; simp [tmV, Tm.wf, Tm.op, Tm.n, Tm.args, h1, hn])
   cases as_ <;> simp
   omega
  ·have hb : (n == 0) = false := by simpa using hn
   refine rgS fun K hK => ?_
   simp (disch := omega) [hb]
   (repeat' first | apply hK | apply And.intro) <;> try first | omega | rfl | (simp <;> omega)
   all_goals (refine awp_ret ?_; refine ⟨⟨.inr rfl, _, [], rfl, trivial, trivial, by simp [tmV, Tm.wf, Tm.op, Tm.n, Tm.args, h1, hn], ?_⟩, by simp [tmV, Tm.wf, Tm.op, Tm.n, Tm.args, h1, hn]⟩; simp [tmV, Tm.wf, Tm.op, Tm.n, Tm.args, h1, hn])
 refine condF (by simp [h1] <;> omega) ?_
 refine rgS fun K hK => ?_
 simp (disch := omega)
 (repeat' first | apply hK | apply And.intro) <;> try first | omega | rfl | (simp <;> omega)
 by_cases h2 : o = 2
 ·refine condT (by simp [h2] <;> omega) ?_
  by_cases hn : 0 ≤ n
  all_goals by_cases hn2 : n < 6
  all_goals
   refine rgS fun K hK => ?_
   simp (disch := omega) [hn, hn2]
   (repeat' first | apply hK | apply And.intro) <;> try first | omega | rfl | (simp <;> omega)
   all_goals (refine awp_ret ?_; refine ⟨⟨.inr rfl, _, [], rfl, trivial, trivial, by simp [tmV, Tm.wf, Tm.op, Tm.n, Tm.args, h2, hn, hn2], ?_⟩, by simp [tmV, Tm.wf, Tm.op, Tm.n, Tm.args, h2, hn, hn2]⟩; simp [tmV, Tm.wf, Tm.op, Tm.n, Tm.args, h2, hn, hn2])
  cases as_ <;> simp
  omega
 refine condF (by simp [h2] <;> omega) ?_
 refine rgS fun K hK => ?_
 simp (disch := omega)
 (repeat' first | apply hK | apply And.intro) <;> try first | omega | rfl | (simp <;> omega)
 by_cases h3 : o = 3
 ·refine condT (by simp [h3] <;> omega) ?_
  by_cases hn : n = 0
  ·refine rgS fun K hK => ?_
   simp (disch := omega) [hn]
   (repeat' first | apply hK | apply And.intro) <;> try first | omega | rfl | (simp <;> omega)
   all_goals (refine awp_ret ?_; refine ⟨⟨.inr rfl, _, [], rfl, trivial, trivial, by simp [tmV, Tm.wf, Tm.op, Tm.n, Tm.args, h3, hn], ?_⟩, by simp [tmV, Tm.wf, Tm.op, Tm.n, Tm.args, h3, hn]⟩; simp [tmV, Tm.wf, Tm.op, Tm.n, Tm.args, h3, hn])
   omega
  ·have hb : (n == 0) = false := by simpa using hn
   refine rgS fun K hK => ?_
   simp (disch := omega) [hb]
   (repeat' first | apply hK | apply And.intro) <;> try first | omega | rfl | (simp <;> omega)
   all_goals (refine awp_ret ?_; refine ⟨⟨.inr rfl, _, [], rfl, trivial, trivial, by simp [tmV, Tm.wf, Tm.op, Tm.n, Tm.args, h3, hn], ?_⟩, by simp [tmV, Tm.wf, Tm.op, Tm.n, Tm.args, h3, hn]⟩; simp [tmV, Tm.wf, Tm.op, Tm.n, Tm.args, h3, hn])
 refine condF (by simp [h3] <;> omega) ?_
 refine rgS fun K hK => ?_
 simp (disch := omega)
 (repeat' first | apply hK | apply And.intro) <;> try first | omega | rfl | (simp <;> omega)
 by_cases h4 : o = 4
 ·refine condT (by simp [h4] <;> omega) ?_
  by_cases hn : -1 ≤ n
  all_goals by_cases hn2 : n ≤ 9
  all_goals
   refine rgS fun K hK => ?_
   simp (disch := omega) [hn, hn2]
   (repeat' first | apply hK | apply And.intro) <;> try first | omega | rfl | (simp <;> omega)
   all_goals (refine awp_ret ?_; refine ⟨⟨.inr rfl, _, [], rfl, trivial, trivial, by simp [tmV, Tm.wf, Tm.op, Tm.n, Tm.args, h4, hn, hn2], ?_⟩, by simp [tmV, Tm.wf, Tm.op, Tm.n, Tm.args, h4, hn, hn2]⟩; simp [tmV, Tm.wf, Tm.op, Tm.n, Tm.args, h4, hn, hn2])
  by_cases e : as_.length = 1 <;> simp [e]
  omega
 refine condF (by simp [h4] <;> omega) ?_
 refine awp_skip ?_
 show awp _ _ _ _
 refine rgS fun K hK => ?_
 simp (disch := omega)
 and_intros <;> try first | apply hK | omega | rfl | simp <;> omega
 refine awp_ret ?_
 refine ⟨⟨.inr rfl, _, [], rfl, trivial, trivial, by simp [tmV, Tm.wf, Tm.op, Tm.n, Tm.args, h1, h2, h3, h4], ?_⟩, by simp [tmV, Tm.wf, Tm.op, Tm.n, Tm.args, h1, h2, h3, h4]⟩
 simp [tmV, Tm.wf, Tm.op, Tm.n, Tm.args, h1, h2, h3, h4]
theorem okL'_all : ∀ {l : List Tm}, okL' l = true ↔ ∀ a ∈ l, a.ok = true
 | [] => by simp [okL']
 | a :: l => by
  show (a.ok && okL' l) = true ↔ _
  rw [Bool.and_eq_true, okL'_all]
  simp
def ndsI (t : Tm) (lim : Int) : Int := if t.ok = true ∧ (t.sz : Int) ≤ lim then (t.sz : Int) else lim + 1
theorem take_sz {l : List Tm} {k : Nat} (h : k < l.length) : szL (l.take (k + 1)) = szL (l.take k) + l[k].sz := by
 rw [List.take_succ_eq_append_getElem h, szL_app]
 show _ + (l[k].sz + 0) = _
 omega
theorem take_ok {l : List Tm} {k : Nat} (h : k < l.length) : okL' (l.take (k + 1)) = (okL' (l.take k) && l[k].ok) := by
 rw [List.take_succ_eq_append_getElem h, okL'_app]
 show _ = _
 simp [okL']
theorem szL_take_le (l : List Tm) (k : Nat) : szL (l.take k) ≤ szL l := by
 have := szL_app (l.take k) (l.drop k)
 rw [List.take_append_drop] at this
 omega
theorem szL_ge : ∀ l : List Tm, l.length ≤ szL l
 | [] => Nat.le_refl _
 | a :: l => by
  have := szL_ge l
  have := sz_pos a
  show l.length + 1 ≤ a.sz + szL l
  omega
def cntT (t : Tm) (k : Nat) : Nat := 1 + szL (t.args.take k)
theorem cntT_succ {t : Tm} {k : Nat} (h : k < t.args.length) : cntT t (k + 1) = cntT t k + t.args[k].sz := by
 unfold cntT
 rw [take_sz h]; omega
theorem cntT_le (t : Tm) (k : Nat) : cntT t k ≤ t.sz := by
 unfold cntT
 rw [sz_eq]
 have := szL_take_le t.args k
 omega
theorem cntT_all (t : Tm) : cntT t t.args.length = t.sz := by
 unfold cntT
 rw [List.take_length, sz_eq]
theorem nodes_fn : ∀ (t : Tm) (lim : Int), 0 ≤ lim → lim ≤ 1000000 → FnA Tryz.prog 82 [tmV 0 t, .t 2 (.int .i64 lim)] (.t 2 (.int .i64 (ndsI t lim))) := by
 intro t
 induction hsz : t.sz using Nat.strongRecOn generalizing t with
 | _ q ih =>
 intro lim hl0 hl1
 have hW := wellFormed_fn t
 have hszp := sz_pos t
 refine fn_intro Tryz.func82 rfl (by simp [Tryz.f82]) ?_
 rw [show Tryz.f82.ntmps = 36 from rfl, show Tryz.f82.results = #[.tmp 4] from rfl]
 refine rgS fun K hK => ?_
 simp (disch := omega) [tmV]
 and_intros <;> try first | apply hK | omega | rfl | simp <;> omega
 refine awp_seq ?_
 by_cases hlim : lim < 1
 ·have hn : ndsI t lim = lim + 1 := by unfold ndsI; rw [if_neg (by omega)]
  refine rgS fun K hK => ?_
  simp (disch := omega) [hlim]
  and_intros <;> try first | apply hK | omega | rfl | simp <;> omega
  refine condT (by simp [hlim] <;> omega) ?_
  refine rgS fun K hK => ?_
  simp (disch := omega)
  (repeat' first | apply hK | apply And.intro) <;> try first | omega | rfl | (simp <;> omega)
  all_goals (refine awp_ret ?_; refine ⟨⟨.inr rfl, _, [], rfl, trivial, trivial, by simp [tmV, hn], ?_⟩, by simp [tmV, hn]⟩; simp [tmV, hn])
 by_cases hwf : t.wf = true
 case neg =>
  have hwf' : t.wf = false := by simpa using hwf
  have hok : t.ok = false := by rw [ok_eq, hwf']; rfl
  have hn : ndsI t lim = lim + 1 := by unfold ndsI; rw [if_neg (by simp [hok])]
  rw [hwf'] at hW
  refine rgS fun K hK => ?_
  simp (disch := omega) [hlim]
  (repeat' apply And.intro)
  all_goals (try omega)
  refine callO (hW) (by simp [tmV, hlim]) rfl rfl rfl (by kernel_rfl) (by simp) ?_ ?_
  ·simp [tmV, hlim]
  simp (disch := omega)
  and_intros <;> try first | apply hK | omega | rfl | simp <;> omega
  refine condT (by simp <;> omega) ?_
  refine rgS fun K hK => ?_
  simp (disch := omega)
  (repeat' first | apply hK | apply And.intro) <;> try first | omega | rfl | (simp <;> omega)
  all_goals (refine awp_ret ?_; refine ⟨⟨.inr rfl, _, [], rfl, trivial, trivial, by simp [tmV, hn], ?_⟩, by simp [tmV, hn]⟩; simp [tmV, hn])
 rw [hwf] at hW
 refine rgS fun K hK => ?_
 simp (disch := omega) [hlim]
 (repeat' apply And.intro)
 all_goals (try omega)
 refine callO (hW) (by simp [tmV, hlim]) rfl rfl rfl (by kernel_rfl) (by simp) ?_ ?_
 ·simp [tmV, hlim]
 simp (disch := omega)
 and_intros <;> try first | apply hK | omega | rfl | simp <;> omega
 refine condF (by simp <;> omega) ?_
 refine awp_skip ?_
 show awp _ _ _ _
 refine rgS fun K hK => ?_
 simp (disch := omega)
 and_intros <;> try first | apply hK | omega | rfl | simp <;> omega
 refine awp_seq ?_
 refine rgS fun K hK => ?_
 simp (disch := omega)
 and_intros <;> try first | apply hK | omega | rfl | simp <;> omega
 refine awp_block ?_
 refine awp_loop (fun k : Nat => mkS [(1, .t 2 (.int .i64 lim)), (5, .t 2 (.int .i64 (cntT t k : Int))), (18, .t 0 (.sl 3 (cellsL t.args))), (19, .t 2 (.int .i64 t.args.length)), (20, .t 2 (.int .i64 k))] [] 0 36 [.any, .any]) (fun k => k ≤ t.args.length ∧ okL' (t.args.take k) = true ∧ (cntT t k : Int) ≤ lim) (fun k => t.args.length - k) ?_ ?_
 ·refine ⟨0, ⟨by omega, rfl, by simp [cntT, szL]; omega⟩, ?_⟩
  refine wk_list [] rfl ?_ ?_ ?_ ?_
  all_goals try simp [tmV, cntT, szL]
 rintro k ⟨hk, hok, hn1⟩
 refine rgS fun K hK => ?_
 simp (disch := omega)
 and_intros <;> try first | apply hK | omega | rfl | simp <;> omega
 refine awp_seq ?_
 by_cases hkl : k < t.args.length
 ·obtain ⟨a, ha⟩ : ∃ a, a = t.args[k] := ⟨_, rfl⟩
  have hcut := cellsL_cut t.args k hkl
  rw [← ha, Tm.cells_eq] at hcut
  have ham : a ∈ t.args := by rw [ha]; exact List.getElem_mem hkl
  have hlt := sz_arg ham
  have hIH := ih a.sz (by omega) a rfl (lim - (cntT t k : Int)) (by omega) (by omega)
  have hts := cntT_succ hkl
  have hkb : k ≤ cntT t k := by
   have := szL_ge (t.args.take k)
   rw [List.length_take] at this
   unfold cntT
   omega
  have hto := take_ok hkl
  rw [← ha] at hts hto
  rw [hok, Bool.true_and] at hto
  refine condT (by simp [hkl] <;> omega) ?_
  refine awp_skip ?_
  show awp _ _ _ _
  refine awp_seq ?_
  refine awp_block ?_
  refine rgS fun K hK => ?_
  simp (disch := omega) [hcut, hkl]
  (repeat' first | apply hK | apply And.intro) <;> try first | omega | rfl | (simp <;> omega)
  by_cases hgood : a.ok = true ∧ (a.sz : Int) ≤ lim - (cntT t k : Int)
  ·have hnd : ndsI a (lim - (cntT t k : Int)) = (a.sz : Int) := by unfold ndsI; rw [if_pos hgood]
   rw [hnd] at hIH
   have hle : ¬ lim < (cntT t k : Int) + (a.sz : Int) := by omega
   refine rgS fun K hK => ?_
   simp (disch := omega)
   (repeat' apply And.intro)
   all_goals (try omega)
   refine callO (hIH) rfl rfl rfl rfl (by kernel_rfl) (by simp) ?_ ?_
   ·simp [tmV]
   simp (disch := omega)
   and_intros <;> try first | apply hK | omega | rfl | simp <;> omega
   refine rgS fun K hK => ?_
   simp (disch := omega)
   and_intros <;> try first | apply hK | omega | rfl | simp <;> omega
   refine condF (by simp [hle] <;> omega) ?_
   refine awp_skip ?_
   show awp _ _ _ _
   refine rgL fun K hK => ?_
   simp (disch := omega)
   (repeat' first | apply hK | apply And.intro) <;> try first | omega | rfl | (simp <;> omega)
   refine ⟨k + 1, ⟨by omega, by rw [hto]; exact hgood.1, by omega⟩, by omega, ?_⟩
   refine wk_list [] rfl ?_ ?_ ?_ ?_
   all_goals try simp [hts]
  ·have hnd : ndsI a (lim - (cntT t k : Int)) = lim - (cntT t k : Int) + 1 := by unfold ndsI; rw [if_neg hgood]
   have hres : ndsI t lim = lim + 1 := by
    unfold ndsI
    rw [if_neg]
    rintro ⟨h1, h2⟩
    rw [ok_eq, Bool.and_eq_true] at h1
    have h3 := okL'_all.1 h1.2 a ham
    have h4 := cntT_le t (k + 1)
    exact hgood ⟨h3, by omega⟩
   rw [hnd] at hIH
   have hgt : lim < (cntT t k : Int) + (lim - (cntT t k : Int) + 1) := by omega
   have heq : (cntT t k : Int) + (lim - (cntT t k : Int) + 1) = lim + 1 := by omega
   refine rgS fun K hK => ?_
   simp (disch := omega)
   (repeat' apply And.intro)
   all_goals (try omega)
   refine callO (hIH) rfl rfl rfl rfl (by kernel_rfl) (by simp) ?_ ?_
   ·simp [tmV]
   simp (disch := omega)
   and_intros <;> try first | apply hK | omega | rfl | simp <;> omega
   refine rgS fun K hK => ?_
   simp (disch := omega)
   and_intros <;> try first | apply hK | omega | rfl | simp <;> omega
   refine condT (by simp [hgt] <;> omega) ?_
   refine awp_exit ?_
   show awp _ _ _ _
   refine rgS fun K hK => ?_
   simp (disch := omega)
   (repeat' first | apply hK | apply And.intro) <;> try first | omega | rfl | (simp <;> omega)
   all_goals (refine awp_ret ?_; refine ⟨⟨.inr rfl, _, [], rfl, trivial, trivial, by simp [tmV, hres, heq], ?_⟩, by simp [tmV, hres, heq]⟩; simp [tmV, hres, heq])
 obtain rfl : k = t.args.length := by omega
 rw [List.take_length] at hok
 have hres : ndsI t lim = (cntT t t.args.length : Int) := by
  unfold ndsI
  rw [if_pos ⟨by rw [ok_eq, hwf, hok]; rfl, by rw [← cntT_all]; exact hn1⟩, cntT_all]
 refine condF (by simp <;> omega) ?_
 refine awp_exit ?_
 show awp _ _ _ _
 refine rgS fun K hK => ?_
 simp (disch := omega)
 (repeat' first | apply hK | apply And.intro) <;> try first | omega | rfl | (simp <;> omega)
 all_goals (refine awp_ret ?_; refine ⟨⟨.inr rfl, _, [], rfl, trivial, trivial, by simp [tmV, hres], ?_⟩, by simp [tmV, hres]⟩; simp [tmV, hres])
def vTm (t : Tm) : Int := if t.val = true then 0 else 21
theorem ndsI_60 (t : Tm) : (60 < ndsI t 60) = (t.val = false) := by
 apply propext
 unfold ndsI Tm.val
 by_cases h : t.ok = true ∧ (t.sz : Int) ≤ 60
 ·rw [if_pos h]
  have h2 : t.sz ≤ 60 := by omega
  simp [h.1, h2]
  omega
 ·rw [if_neg h]
  have h2 : ¬ (t.ok = true ∧ t.sz ≤ 60) := fun h3 => h ⟨h3.1, by omega⟩
  constructor
  ·intro _
   by_cases h4 : t.ok = true
   ·have : ¬ t.sz ≤ 60 := fun h5 => h2 ⟨h4, h5⟩
    simp [this]
   ·simp [h4]
  ·intro _; omega
theorem oValidate_fn (t : Tm) : FnA Tryz.prog 47 [tmV 0 t] (.t 2 (.int .i64 (vTm t))) := by
 have hN := nodes_fn t 60 (by omega) (by omega)
 have h60 := ndsI_60 t
 refine fn_intro Tryz.func47 rfl (by simp [Tryz.f47]) ?_
 rw [show Tryz.f47.ntmps = 6 from rfl, show Tryz.f47.results = #[.tmp 2] from rfl]
 refine rgS fun K hK => ?_
 simp (disch := omega) [tmV]
 and_intros <;> try first | apply hK | omega | rfl | simp <;> omega
 refine awp_seq ?_
 refine rgS fun K hK => ?_
 simp (disch := omega)
 (repeat' apply And.intro)
 all_goals (try omega)
 refine callO (hN) rfl rfl rfl rfl (by kernel_rfl) (by simp) ?_ ?_
 ·simp [tmV]
 simp (disch := omega)
 (repeat' first | apply hK | apply And.intro) <;> try first | omega | rfl | (simp <;> omega)
 by_cases hv : t.val = true
 ·have h1 : ¬ 60 < ndsI t 60 := by rw [h60, hv]; simp
  refine condF (by simp [h1] <;> omega) ?_
  refine awp_skip ?_
  show awp _ _ _ _
  refine rgS fun K hK => ?_
  simp (disch := omega)
  (repeat' first | apply hK | apply And.intro) <;> try first | omega | rfl | (simp <;> omega)
  all_goals (refine awp_ret ?_; refine ⟨⟨.inr rfl, _, [], rfl, trivial, trivial, by simp [tmV, vTm, hv], ?_⟩, by simp [tmV, vTm, hv]⟩; simp [tmV, vTm, hv])
 ·have h1 : 60 < ndsI t 60 := by rw [h60]; simpa using hv
  refine condT (by simp [h1] <;> omega) ?_
  refine rgS fun K hK => ?_
  simp (disch := omega)
  (repeat' first | apply hK | apply And.intro) <;> try first | omega | rfl | (simp <;> omega)
  all_goals (refine awp_ret ?_; refine ⟨⟨.inr rfl, _, [], rfl, trivial, trivial, by simp [tmV, vTm, hv], ?_⟩, by simp [tmV, vTm, hv]⟩; simp [tmV, vTm, hv])
def idV (p : Nat) (a b : Tm) : AV := .agg [.t 2 (.int .i64 a.op), .t 2 (.int .i64 a.n), .t p (.sl 3 (cellsL a.args)), .t 2 (.int .i64 b.op), .t 2 (.int .i64 b.n), .t p (.sl 3 (cellsL b.args))]
def vId (a b : Tm) : Int := if a.val = true then vTm b else 21
theorem oValidId_fn (a b : Tm) : FnA Tryz.prog 69 [idV 0 a b] (.t 2 (.int .i64 (vId a b))) := by
 have hA := oValidate_fn a
 have hB := oValidate_fn b
 refine fn_intro Tryz.func69 rfl (by simp [Tryz.f69]) ?_
 rw [show Tryz.f69.ntmps = 13 from rfl, show Tryz.f69.results = #[.tmp 2] from rfl]
 refine rgS fun K hK => ?_
 simp (disch := omega) [idV]
 and_intros <;> try first | apply hK | omega | rfl | simp <;> omega
 refine awp_seq ?_
 refine rgS fun K hK => ?_
 simp (disch := omega)
 (repeat' apply And.intro)
 all_goals (try omega)
 refine callO (hA) rfl rfl rfl rfl (by kernel_rfl) (by simp) ?_ ?_
 ·simp [tmV]
 simp (disch := omega)
 (repeat' first | apply hK | apply And.intro) <;> try first | omega | rfl | (simp <;> omega)
 by_cases hv : a.val = true
 ·have h0 : vTm a = 0 := by unfold vTm; rw [if_pos hv]
  refine rgS fun K hK => ?_
  simp (disch := omega) [h0]
  and_intros <;> try first | apply hK | omega | rfl | simp <;> omega
  refine condF (by simp [h0] <;> omega) ?_
  refine awp_skip ?_
  show awp _ _ _ _
  refine rgS fun K hK => ?_
  simp (disch := omega)
  (repeat' apply And.intro)
  all_goals (try omega)
  refine callO (hB) rfl rfl rfl rfl (by kernel_rfl) (by simp) ?_ ?_
  ·simp [tmV]
  simp (disch := omega)
  (repeat' first | apply hK | apply And.intro) <;> try first | omega | rfl | (simp <;> omega)
  all_goals (refine awp_ret ?_; refine ⟨⟨.inr rfl, _, [], rfl, trivial, trivial, by simp [idV, vId, hv], ?_⟩, by simp [idV, vId, hv]⟩; simp [idV, vId, hv])
 ·have h0 : vTm a = 21 := by unfold vTm; rw [if_neg hv]
  refine rgS fun K hK => ?_
  simp (disch := omega) [h0]
  and_intros <;> try first | apply hK | omega | rfl | simp <;> omega
  refine condT (by simp [h0] <;> omega) ?_
  refine rgS fun K hK => ?_
  simp (disch := omega)
  (repeat' first | apply hK | apply And.intro) <;> try first | omega | rfl | (simp <;> omega)
  all_goals (refine awp_ret ?_; refine ⟨⟨.inr rfl, _, [], rfl, trivial, trivial, by simp [idV, vId, hv, h0], ?_⟩, by simp [idV, vId, hv, h0]⟩; simp [idV, vId, hv, h0])
def fitB (t : Tm) (left : Int) : Bool := t.ok && decide ((t.sz : Int) ≤ left)
theorem refNodes_fn : ∀ (t : Tm) (left : Int), left ≤ 1000000 → -1000000 ≤ left → ∃ res, (∃ N : Nat, ((N : Int) ≤ left ∨ N = 1) ∧ (fitB t left = true → N = t.sz) ∧ res = .tup [.t 2 (.int .i64 (N : Int)), .t 2 (.bool (fitB t left))]) ∧ FnA Tryz.prog 92 [tmV 0 t, .t 2 (.int .i64 left)] res := by
 intro t
 induction hsz : t.sz using Nat.strongRecOn generalizing t with
 | _ q ih =>
 intro left hl1 hl0
 have hszp := sz_pos t
 refine fn_introE Tryz.func92 rfl (by simp [Tryz.f92]) ?_
 rw [show Tryz.f92.ntmps = 108 from rfl, show Tryz.f92.results = #[.tmp 4, .tmp 5] from rfl]
 refine rgS fun K hK => ?_
 simp (disch := omega) [tmV]
 and_intros <;> try first | apply hK | omega | rfl | simp <;> omega
 refine awp_seq ?_
 refine rgS fun K hK => ?_
 simp (disch := omega)
 (repeat' first | apply hK | apply And.intro) <;> try first | omega | rfl | (simp <;> omega)
 by_cases hlim : left < 1
 ·have hb : fitB t left = false := by unfold fitB; simp; omega
  refine condT (by simp [hlim] <;> omega) ?_
  refine rgS fun K hK => ?_
  simp (disch := omega)
  and_intros <;> try first | apply hK | omega | rfl | simp <;> omega
  refine awp_ret ?_
  refine ⟨_, ⟨1, .inr rfl, by simp [hb], rfl⟩, ?_⟩
  refine ⟨⟨.inr rfl, _, [], rfl, trivial, trivial, by simp [tmV, hb], ?_⟩, by simp [tmV, hb]⟩
  simp [tmV, hb]
 refine condF (by simp [hlim] <;> omega) ?_
 refine awp_skip ?_
 show awp _ _ _ _
 refine rgS fun K hK => ?_
 simp (disch := omega)
 and_intros <;> try first | apply hK | omega | rfl | simp <;> omega
 refine awp_seq (awp_mono (Q := fun e σ => e = Exit.normal ∧ Wk σ (mkS [(1, .t 2 (.int .i64 left)), (2, .ptr 0 0 3), (6, .t 2 (.bool t.wf))] [(0, .box 29 [.t 2 (.int .i64 t.op), .t 2 (.int .i64 t.n), .t 0 (.sl 3 (cellsL t.args))])] 1 108 [.any, .any])) ?_ ?_)
 ·refine rgS fun K hK => ?_
  simp (disch := omega)
  and_intros <;> try first | apply hK | omega | rfl | simp <;> omega
  refine awp_block ?_
  obtain ⟨o, n, as_⟩ := t
  clear ih hsz hszp
  refine rgS fun K hK => ?_
  simp (disch := omega) [Tm.op, Tm.n, Tm.args]
  (repeat' first | apply hK | apply And.intro) <;> try first | omega | rfl | (simp <;> omega)
  by_cases h1 : o = 1
  ·refine condT (by simp [h1] <;> omega) ?_
   by_cases hn : n = 0
   ·refine rgL fun K hK => ?_
    simp (disch := omega) [hn]
    (repeat' first | apply hK | apply And.intro) <;> try first | omega | rfl | (simp <;> omega)
    refine wk_list [(0, some 0)] rfl ?_ ?_ ?_ ?_
    all_goals try simp [tmV, Tm.wf, Tm.op, Tm.n, Tm.args, h1, hn]
    cases as_ <;> simp
    omega
   ·have hb : (n == 0) = false := by simpa using hn
    refine rgL fun K hK => ?_
    simp (disch := omega) [hb]
    (repeat' first | apply hK | apply And.intro) <;> try first | omega | rfl | (simp <;> omega)
    refine wk_list [(0, some 0)] rfl ?_ ?_ ?_ ?_
    all_goals try simp [tmV, Tm.wf, Tm.op, Tm.n, Tm.args, h1, hn]
  refine condF (by simp [h1] <;> omega) ?_
  refine rgS fun K hK => ?_
  simp (disch := omega)
  (repeat' first | apply hK | apply And.intro) <;> try first | omega | rfl | (simp <;> omega)
  by_cases h2 : o = 2
  ·refine condT (by simp [h2] <;> omega) ?_
   by_cases hn : 0 ≤ n
   ·by_cases hn2 : n < 6
    all_goals
     refine rgL fun K hK => ?_
     simp (disch := omega) [hn, hn2]
     (repeat' first | apply hK | apply And.intro) <;> try first | omega | rfl | (simp <;> omega)
     refine wk_list [(0, some 0)] rfl ?_ ?_ ?_ ?_
     all_goals try simp [tmV, Tm.wf, Tm.op, Tm.n, Tm.args, h2, hn, hn2]
    cases as_ <;> simp
    omega
   ·refine rgL fun K hK => ?_
    simp (disch := omega) [hn]
    (repeat' first | apply hK | apply And.intro) <;> try first | omega | rfl | (simp <;> omega)
    refine wk_list [(0, some 0)] rfl ?_ ?_ ?_ ?_
    all_goals try simp [tmV, Tm.wf, Tm.op, Tm.n, Tm.args, h2, hn]
  refine condF (by simp [h2] <;> omega) ?_
  refine rgS fun K hK => ?_
  simp (disch := omega)
  (repeat' first | apply hK | apply And.intro) <;> try first | omega | rfl | (simp <;> omega)
  by_cases h3 : o = 3
  ·refine condT (by simp [h3] <;> omega) ?_
   by_cases hn : n = 0
   ·refine rgL fun K hK => ?_
    simp (disch := omega) [hn]
    (repeat' first | apply hK | apply And.intro) <;> try first | omega | rfl | (simp <;> omega)
    refine wk_list [(0, some 0)] rfl ?_ ?_ ?_ ?_
    all_goals try simp [tmV, Tm.wf, Tm.op, Tm.n, Tm.args, h3, hn]
    omega
   ·have hb : (n == 0) = false := by simpa using hn
    refine rgL fun K hK => ?_
    simp (disch := omega) [hb]
    (repeat' first | apply hK | apply And.intro) <;> try first | omega | rfl | (simp <;> omega)
    refine wk_list [(0, some 0)] rfl ?_ ?_ ?_ ?_
    all_goals try simp [tmV, Tm.wf, Tm.op, Tm.n, Tm.args, h3, hn]
  refine condF (by simp [h3] <;> omega) ?_
  refine rgS fun K hK => ?_
  simp (disch := omega)
  (repeat' first | apply hK | apply And.intro) <;> try first | omega | rfl | (simp <;> omega)
  by_cases h4 : o = 4
  ·refine condT (by simp [h4] <;> omega) ?_
   by_cases hn : -1 ≤ n
   ·by_cases hn2 : n ≤ 9
    all_goals
     refine rgL fun K hK => ?_
     simp (disch := omega) [hn, hn2]
     (repeat' first | apply hK | apply And.intro) <;> try first | omega | rfl | (simp <;> omega)
     refine wk_list [(0, some 0)] rfl ?_ ?_ ?_ ?_
     all_goals try simp [tmV, Tm.wf, Tm.op, Tm.n, Tm.args, h4, hn, hn2]
    by_cases e : as_.length = 1 <;> simp [e]
    omega
   ·refine rgL fun K hK => ?_
    simp (disch := omega) [hn]
    (repeat' first | apply hK | apply And.intro) <;> try first | omega | rfl | (simp <;> omega)
    refine wk_list [(0, some 0)] rfl ?_ ?_ ?_ ?_
    all_goals try simp [tmV, Tm.wf, Tm.op, Tm.n, Tm.args, h4, hn]
  refine condF (by simp [h4] <;> omega) ?_
  refine awp_skip ?_
  refine ⟨rfl, ?_⟩
  refine wk_list [(0, some 0)] rfl ?_ ?_ ?_ ?_
  all_goals try simp [tmV, Tm.wf, Tm.op, Tm.n, Tm.args, h1, h2, h3, h4]
 rintro e σ ⟨rfl, hw⟩
 refine awp_weak hw ?_
 clear hw
 show awp _ _ _ _
 refine rgS fun K hK => ?_
 simp (disch := omega)
 and_intros <;> try first | apply hK | omega | rfl | simp <;> omega
 refine awp_seq ?_
 refine rgS fun K hK => ?_
 simp (disch := omega)
 and_intros <;> try first | apply hK | omega | rfl | simp <;> omega
 refine awp_block ?_
 refine awp_loop (fun y : Nat × Nat × Bool => mkS [(1, .t 2 (.int .i64 left)), (6, .t 2 (.bool y.2.2)), (7, .t 2 (.int .i64 (y.2.1 : Int))), (71, .t 0 (.sl 3 (cellsL t.args))), (72, .t 2 (.int .i64 t.args.length)), (73, .t 2 (.int .i64 y.1))] [] 0 108 [.any, .any]) (fun y => y.1 ≤ t.args.length ∧ (y.2.1 : Int) ≤ left ∧ (y.2.2 = true → t.wf = true ∧ okL' (t.args.take y.1) = true ∧ y.2.1 = cntT t y.1) ∧ (y.2.2 = false → fitB t left = false)) (fun y => t.args.length - y.1) ?_ ?_
 ·refine ⟨(0, 1, t.wf), ⟨by simp, by simp only; omega, fun h => ⟨h, rfl, rfl⟩, fun h => by
   have h : t.wf = false := h
   unfold fitB
   rw [ok_eq, h]; rfl⟩, ?_⟩
  refine wk_list [] rfl ?_ ?_ ?_ ?_
  all_goals try simp [tmV]
 rintro ⟨k, N, b⟩ ⟨hk, hN, hbt, hbf⟩
 simp only at hk hN hbt hbf
 refine rgS fun K hK => ?_
 simp (disch := omega)
 and_intros <;> try first | apply hK | omega | rfl | simp <;> omega
 refine awp_seq ?_
 by_cases hkl : k < t.args.length
 ·obtain ⟨a, ha⟩ : ∃ a, a = t.args[k] := ⟨_, rfl⟩
  have hcut := cellsL_cut t.args k hkl
  rw [← ha, Tm.cells_eq] at hcut
  have ham : a ∈ t.args := by rw [ha]; exact List.getElem_mem hkl
  have hlt := sz_arg ham
  have hts := cntT_succ hkl
  have hto := take_ok hkl
  rw [← ha] at hts hto
  have hle := cntT_le t (k + 1)
  have hap := sz_pos a
  have hres : ∀ x : Nat, (x = cntT t k → False) ∨ True := fun _ => .inr trivial
  refine condT (by simp [hkl] <;> omega) ?_
  refine awp_skip ?_
  show awp _ _ _ _
  refine awp_seq ?_
  refine awp_block ?_
  refine rgS fun K hK => ?_
  simp (disch := omega) [hcut, hkl]
  and_intros <;> try first | apply hK | omega | rfl | simp <;> omega
  refine awp_seq ?_
  cases b with
  | false =>
   have hb := hbf rfl
   refine rgS fun K hK => ?_
   simp (disch := omega)
   and_intros <;> try first | apply hK | omega | rfl | simp <;> omega
   refine condT (by simp <;> omega) ?_
   refine rgS fun K hK => ?_
   simp (disch := omega)
   and_intros <;> try first | apply hK | omega | rfl | simp <;> omega
   refine awp_ret ?_
   refine ⟨_, ⟨N, .inl hN, by simp [hb], rfl⟩, ?_⟩
   refine ⟨⟨.inr rfl, _, [], rfl, trivial, trivial, by simp [tmV, hb], ?_⟩, by simp [tmV, hb]⟩
   simp [tmV, hb]
  | true =>
   obtain ⟨b1, b2, b3⟩ := hbt rfl
   by_cases hge : left ≤ (N : Int)
   ·have hb : fitB t left = false := by
     unfold fitB
     have : ¬ (t.sz : Int) ≤ left := by omega
     simp [this]
    refine rgS fun K hK => ?_
    simp (disch := omega) [hge]
    and_intros <;> try first | apply hK | omega | rfl | simp <;> omega
    refine condT (by simp [hge] <;> omega) ?_
    refine rgS fun K hK => ?_
    simp (disch := omega)
    and_intros <;> try first | apply hK | omega | rfl | simp <;> omega
    refine awp_ret ?_
    refine ⟨_, ⟨N, .inl hN, by simp [hb], rfl⟩, ?_⟩
    refine ⟨⟨.inr rfl, _, [], rfl, trivial, trivial, by simp [tmV, hb], ?_⟩, by simp [tmV, hb]⟩
    simp [tmV, hb]
   ·obtain ⟨res, ⟨N2, hN2, hf2, rfl⟩, hIH⟩ := ih a.sz (by omega) a rfl (left - (N : Int)) (by omega) (by omega)
    have hkb : k ≤ N := by
     have := szL_ge (t.args.take k)
     rw [List.length_take] at this
     rw [b3]
     unfold cntT
     omega
    rw [b2, Bool.true_and] at hto
    refine rgS fun K hK => ?_
    simp (disch := omega) [hge]
    and_intros <;> try first | apply hK | omega | rfl | simp <;> omega
    refine condF (by simp [hge] <;> omega) ?_
    refine awp_skip ?_
    show awp _ _ _ _
    refine rgS fun K hK => ?_
    simp (disch := omega)
    (repeat' apply And.intro)
    all_goals (try omega)
    refine callO (hIH) rfl rfl rfl rfl (by kernel_rfl) (by simp) ?_ ?_
    ·simp [tmV]
    simp (disch := omega)
    and_intros <;> try first | apply hK | omega | rfl | simp <;> omega
    refine rgL fun K hK => ?_
    simp (disch := omega)
    and_intros <;> try first | apply hK | omega | rfl | simp <;> omega
    show awp _ _ _ _
    refine rgL fun K hK => ?_
    simp (disch := omega)
    (repeat' first | apply hK | apply And.intro) <;> try first | omega | rfl | (simp <;> omega)
    refine ⟨(k + 1, N + N2, fitB a (left - (N : Int))), ⟨by simp only; omega, by simp only; omega, fun h => ?_, fun h => ?_⟩, by simp only; omega, ?_⟩
    ·simp only at h ⊢
     have h2 := hf2 h
     unfold fitB at h
     rw [Bool.and_eq_true] at h
     exact ⟨b1, by rw [hto]; exact h.1, by omega⟩
    ·simp only at h
     unfold fitB at h ⊢
     by_cases ho : t.ok = true
     ·rw [ok_eq, Bool.and_eq_true] at ho
      have h3 := okL'_all.1 ho.2 a ham
      rw [h3, Bool.true_and, decide_eq_false_iff_not] at h
      have : ¬ (t.sz : Int) ≤ left := by omega
      simp [this]
     ·simp [ho]
    ·refine wk_list [] rfl ?_ ?_ ?_ ?_
     all_goals try simp
 obtain rfl : k = t.args.length := by omega
 rw [List.take_length] at hbt
 refine condF (by simp <;> omega) ?_
 refine awp_exit ?_
 show awp _ _ _ _
 cases b with
 | false =>
  have hb := hbf rfl
  refine rgS fun K hK => ?_
  simp (disch := omega)
  and_intros <;> try first | apply hK | omega | rfl | simp <;> omega
  refine awp_ret ?_
  refine ⟨_, ⟨N, .inl hN, by simp [hb], rfl⟩, ?_⟩
  refine ⟨⟨.inr rfl, _, [], rfl, trivial, trivial, by simp [tmV, hb], ?_⟩, by simp [tmV, hb]⟩
  simp [tmV, hb]
 | true =>
  obtain ⟨b1, b2, b3⟩ := hbt rfl
  rw [cntT_all] at b3
  have hb : fitB t left = true := by
   unfold fitB
   rw [ok_eq, b1, b2, ← b3]
   simpa using hN
  refine rgS fun K hK => ?_
  simp (disch := omega) [hN]
  and_intros <;> try first | apply hK | omega | rfl | simp <;> omega
  refine awp_ret ?_
  refine ⟨_, ⟨N, .inl hN, fun _ => b3.trans (by omega), rfl⟩, ?_⟩
  refine ⟨⟨.inr rfl, _, [], rfl, trivial, trivial, by simp [tmV, hb], ?_⟩, by simp [tmV, hb]⟩
  simp [tmV, hb]
theorem fitB_60 (t : Tm) : fitB t 60 = t.val := by
 unfold fitB Tm.val
 by_cases h : t.sz ≤ 60
 ·have : (t.sz : Int) ≤ 60 := by omega
  simp [h, this]
 ·have : ¬ (t.sz : Int) ≤ 60 := by omega
  simp [h, this]
theorem rValidate_fn (t : Tm) : FnA Tryz.prog 55 [tmV 0 t] (.t 2 (.int .i64 (vTm t))) := by
 obtain ⟨res, ⟨N, -, -, rfl⟩, hN⟩ := refNodes_fn t 60 (by omega) (by omega)
 rw [fitB_60] at hN
 refine fn_intro Tryz.func55 rfl (by simp [Tryz.f55]) ?_
 rw [show Tryz.f55.ntmps = 12 from rfl, show Tryz.f55.results = #[.tmp 2] from rfl]
 refine rgS fun K hK => ?_
 simp (disch := omega) [tmV]
 and_intros <;> try first | apply hK | omega | rfl | simp <;> omega
 refine awp_seq ?_
 refine rgS fun K hK => ?_
 simp (disch := omega)
 (repeat' apply And.intro)
 all_goals (try omega)
 refine callO (hN) rfl rfl rfl rfl (by kernel_rfl) (by simp) ?_ ?_
 ·simp [tmV]
 simp (disch := omega)
 and_intros <;> try first | apply hK | omega | rfl | simp <;> omega
 refine rgS fun K hK => ?_
 simp (disch := omega)
 (repeat' first | apply hK | apply And.intro) <;> try first | omega | rfl | (simp <;> omega)
 by_cases hv : t.val = true
 ·refine condF (by simp [hv] <;> omega) ?_
  refine awp_skip ?_
  show awp _ _ _ _
  refine rgS fun K hK => ?_
  simp (disch := omega)
  (repeat' first | apply hK | apply And.intro) <;> try first | omega | rfl | (simp <;> omega)
  all_goals (refine awp_ret ?_; refine ⟨⟨.inr rfl, _, [], rfl, trivial, trivial, by simp [tmV, vTm, hv], ?_⟩, by simp [tmV, vTm, hv]⟩; simp [tmV, vTm, hv])
 ·refine condT (by simp [hv] <;> omega) ?_
  refine rgS fun K hK => ?_
  simp (disch := omega)
  (repeat' first | apply hK | apply And.intro) <;> try first | omega | rfl | (simp <;> omega)
  all_goals (refine awp_ret ?_; refine ⟨⟨.inr rfl, _, [], rfl, trivial, trivial, by simp [tmV, vTm, hv], ?_⟩, by simp [tmV, vTm, hv]⟩; simp [tmV, vTm, hv])
theorem rMay_fn (a b : Tm) : FnA Tryz.prog 74 [idV 0 a b] (.t 2 (.bool (a.val && b.val))) := by
 have hA := rValidate_fn a
 have hB := rValidate_fn b
 refine fn_intro Tryz.func74 rfl (by simp [Tryz.f74]) ?_
 rw [show Tryz.f74.ntmps = 13 from rfl, show Tryz.f74.results = #[.tmp 2] from rfl]
 refine rgS fun K hK => ?_
 simp (disch := omega) [idV]
 (repeat' first | apply hK | apply And.intro) <;> try first | omega | rfl | (simp <;> omega)
 by_cases hv : a.val = true
 ·have h0 : vTm a = 0 := by unfold vTm; rw [if_pos hv]
  rw [h0] at hA
  by_cases hw : b.val = true
  ·have h1 : vTm b = 0 := by unfold vTm; rw [if_pos hw]
   rw [h1] at hB
   refine rgS fun K hK => ?_
   simp (disch := omega)
   (repeat' apply And.intro)
   all_goals (try omega)
   refine callO (hA) rfl rfl rfl rfl (by kernel_rfl) (by simp) ?_ ?_
   ·simp [tmV]
   simp (disch := omega)
   (repeat' apply And.intro)
   all_goals (try omega)
   refine callO (hB) (by simp [tmV]) rfl rfl rfl (by kernel_rfl) (by simp) ?_ ?_
   ·simp [tmV]
   simp (disch := omega)
   (repeat' first | apply hK | apply And.intro) <;> try first | omega | rfl | (simp <;> omega)
   all_goals (refine awp_ret ?_; refine ⟨⟨.inr rfl, _, [], rfl, trivial, trivial, by simp [idV, hv, hw], ?_⟩, by simp [idV, hv, hw]⟩; simp [idV, hv, hw])
  ·have h1 : vTm b = 21 := by unfold vTm; rw [if_neg hw]
   rw [h1] at hB
   refine rgS fun K hK => ?_
   simp (disch := omega)
   (repeat' apply And.intro)
   all_goals (try omega)
   refine callO (hA) rfl rfl rfl rfl (by kernel_rfl) (by simp) ?_ ?_
   ·simp [tmV]
   simp (disch := omega)
   (repeat' apply And.intro)
   all_goals (try omega)
   refine callO (hB) (by simp [tmV]) rfl rfl rfl (by kernel_rfl) (by simp) ?_ ?_
   ·simp [tmV]
   simp (disch := omega)
   (repeat' first | apply hK | apply And.intro) <;> try first | omega | rfl | (simp <;> omega)
   all_goals (refine awp_ret ?_; refine ⟨⟨.inr rfl, _, [], rfl, trivial, trivial, by simp [idV, hv, hw], ?_⟩, by simp [idV, hv, hw]⟩; simp [idV, hv, hw])
 ·have h0 : vTm a = 21 := by unfold vTm; rw [if_neg hv]
  rw [h0] at hA
  refine rgS fun K hK => ?_
  simp (disch := omega)
  (repeat' apply And.intro)
  all_goals (try omega)
  refine callO (hA) rfl rfl rfl rfl (by kernel_rfl) (by simp) ?_ ?_
  ·simp [tmV]
  simp (disch := omega)
  (repeat' first | apply hK | apply And.intro) <;> try first | omega | rfl | (simp <;> omega)
  all_goals (refine awp_ret ?_; refine ⟨⟨.inr rfl, _, [], rfl, trivial, trivial, by simp [idV, hv], ?_⟩, by simp [idV, hv]⟩; simp [idV, hv])
end Go.Proofs.YtghnmmfkckneaaaGreat.M
