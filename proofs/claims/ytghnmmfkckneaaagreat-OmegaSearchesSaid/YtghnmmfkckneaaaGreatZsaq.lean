/-
  Walk in my logic: visits of the nodes of a term (omega.visit) with a function value that has captured one or two variables.
  Walks in my logic: variables of terms, TermOne in terms (omega).
  Walks in my logic: validity and identity of tables (mult), Value (omega).
  Walks in my logic: closed sets, empty ranges (omega).
  Walk in my logic: the ranges of the variables (omega.rangesOf).
  Walk in my logic: the beginning of a search (omega.newHunt).
  Walks in my logic: the steps of a search (omega: values, advance, run).
  Walk in my logic: Violated (omega).
  The examples of chapter 28: known returns true.
-/
import Derived.Test.YtghnmmfkckneaaaGreatZsap
import Derived.Test.YtghnmmfkckneaaaGreatZsam
namespace Go.Proofs.YtghnmmfkckneaaaGreat.M
open Go.RowKit
set_option linter.unusedVariables false
set_option maxRecDepth 100000
set_option maxHeartbeats 32000000
attribute [local simp] ints rows scal wr64 wr8
set_option linter.unusedSimpArgs false

mutual
def Tm.vis {S : Type} (step : S → Int × Int → Int × Int → S) : S → Int × Int → Tm → S
 | s, a, .mk o n l => visL step (step s (o, n) a) (o, n) l
def visL {S : Type} (step : S → Int × Int → Int × Int → S) : S → Int × Int → List Tm → S
 | s, a, [] => s
 | s, a, t :: l => visL step (t.vis step s a) a l
end
theorem vis_eq {S : Type} (step : S → Int × Int → Int × Int → S) (s : S) (a : Int × Int) (t : Tm) : t.vis step s a = visL step (step s (t.op, t.n) a) (t.op, t.n) t.args := by
 obtain ⟨o, n, l⟩ := t
 rw [Tm.vis]
 rfl
theorem visL_app {S : Type} (step : S → Int × Int → Int × Int → S) : ∀ (l r : List Tm) (s : S) (a : Int × Int), visL step s a (l ++ r) = visL step (visL step s a l) a r
 | [], r, s, a => by rw [List.nil_append, visL]
 | t :: l, r, s, a => by rw [List.cons_append, visL, visL, visL_app step l r]
theorem take_vis {S : Type} (step : S → Int × Int → Int × Int → S) (s : S) (a : Int × Int) {l : List Tm} {k : Nat} (h : k < l.length) : visL step s a (l.take (k + 1)) = l[k].vis step (visL step s a (l.take k)) a := by
 rw [List.take_succ_eq_append_getElem h, visL_app, visL, visL]
def abV (a : Int × Int) : AV := .agg [.t 2 (.int .i64 a.1), .t 2 (.int .i64 a.2), .any]
def scC (l : List T) : List AV := l.map (.t 2)
@[simp] theorem scC_len (l : List T) : (scC l).length = l.length := by simp [scC]
def bxO (ty : Nat) (l : List T) : AObj := .box ty (scC l)
theorem scC_in {H : Nat → Option AObj} {pi : List Nat} {q : Nat} : ∀ {l : List T}, (∀ x ∈ l, scal x = true) → inPs H pi q (scC l) (scC l) = True
 | [], _ => rfl
 | x :: l, h => eq_true ⟨⟨rfl, .inl (h x (by simp))⟩, of_eq_true (scC_in (l := l) fun y hy => h y (by simp [hy]))⟩
theorem scC_out {po : List Nat} {q : Nat} : ∀ {l : List T}, (∀ x ∈ l, scal x = true) → outVs po q (scC l) = scC l
 | [], _ => rfl
 | x :: l, h => by
  show outV po q (.t 2 x) :: outVs po q (scC l) = .t 2 x :: scC l
  rw [scC_out (fun y hy => h y (by simp [hy]))]
  simp
theorem scC_wk {H : Nat → Option AObj} {m : Nat → Option Nat} {un : Nat → Prop} {nx : Nat} : ∀ (l : List T), wkPs H m un nx (scC l) (scC l) = True
 | [] => rfl
 | x :: l => eq_true ⟨⟨rfl, Nat.le_refl _⟩, of_eq_true (scC_wk l)⟩

theorem visit1_fn {S : Type} {L0 : S → List T} {ty0 c0 : Nat} {F : FuncId} (hF : bodied Tryz.prog F = true) (step : S → Int × Int → Int × Int → S) (hs0 : ∀ s, ∀ x ∈ L0 s, scal x = true) (hc0 : ∀ s, (L0 s).length = c0)
  (h : ∀ (s : S) (t : Tm) (a : Int × Int), t.ok = true → FnS Tryz.prog F [tmV 0 t, abV a, .ptr 0 0 c0] [bxO ty0 (L0 s)] (.tup []) [bxO ty0 (L0 (step s (t.op, t.n) a))]) :
  ∀ (t : Tm) (s : S) (a : Int × Int), t.ok = true → t.sz ≤ 1000 → FnK Tryz.prog 83 [tmV 0 t, abV a, .fn F [.ptr 0 0 c0]] [bxO ty0 (L0 s)] (.tup []) [bxO ty0 (L0 (t.vis step s a))] (List.range 1) := by
 have hi0 : ∀ (H : Nat → Option AObj) (pi : List Nat) (q : Nat) (s : S), inPs H pi q (scC (L0 s)) (scC (L0 s)) = True := fun H pi q s => scC_in (hs0 s)
 have ho0 : ∀ (po : List Nat) (q : Nat) (s : S), outVs po q (scC (L0 s)) = scC (L0 s) := fun po q s => scC_out (hs0 s)
 have hw0 : ∀ (H : Nat → Option AObj) (m : Nat → Option Nat) (un : Nat → Prop) (nx : Nat) (s : S), wkPs H m un nx (scC (L0 s)) (scC (L0 s)) = True := fun H m un nx s => scC_wk (L0 s)
 intro t
 induction hsz : t.sz using Nat.strongRecOn generalizing t with
 | _ q ih =>
 intro s a ho hq
 have hokl : okL' t.args = true := by rw [ok_eq, Bool.and_eq_true] at ho; exact ho.2
 have hF1 := h s t a ho
 have hsl := szL_ge t.args
 have hse := sz_eq t
 rw [vis_eq]
 refine fn_introKB 1 (fun _ => c0) (fun k hk => by
  obtain rfl : k = 0 := by omega
  exact ⟨_, _, rfl, by simp [hc0]⟩) (fun k hk => by
  obtain rfl : k = 0 := by omega
  exact ⟨_, _, rfl, by simp [hc0]⟩) Tryz.func83 rfl (by simp [Tryz.f83]) ?_
 rw [show Tryz.f83.ntmps = 24 from rfl, show Tryz.f83.results = #[] from rfl]
 generalize step s (t.op, t.n) a = s1 at hF1 ⊢
 refine rgS fun K hK => ?_
 simp (disch := omega) [tmV, abV]
 and_intros <;> try first | apply hK | omega | rfl | simp <;> omega
 refine rgS fun K hK => ?_
 simp (disch := omega) [tsTerm]
 (repeat' apply And.intro)
 all_goals (try omega)
 refine call_rule (caps := [.ptr 0 0 c0]) (hF1) [0] [0] 1 rfl rfl rfl (by simp) (by first | assumption | kernel_rfl) (by simp) ?_ ?_ (by simp) rfl (by simp) ⟨.inr ⟨rfl, 2, _, _, _, _, _, rfl, rfl, (by first | rfl | simp [tmV, abV, bxO, hi0, ho0, hw0, hc0]), rfl, (by first | rfl | simp [tmV, abV, bxO, hi0, ho0, hw0, hc0])⟩, trivial⟩ (by simp [tmV, abV, bxO, hi0, ho0, hw0, hc0]) ?_
 ·simp [tmV, abV, bxO, hi0, ho0, hw0, hc0]
 ·simp [tmV, abV, bxO, hi0, ho0, hw0, hc0]
 simp (disch := omega) [bxO, hi0, ho0, hw0, hc0]
 and_intros <;> try first | apply hK | omega | rfl | simp <;> omega
 refine rgS fun K hK => ?_
 simp (disch := omega)
 and_intros <;> try first | apply hK | omega | rfl | simp <;> omega
 refine awp_block ?_
 refine awp_loop (fun k : Nat => mkS [(2, .fn F [.ptr 0 0 c0]), (3, .ptr 1 0 3), (13, .t 0 (.sl 3 (cellsL t.args))), (14, .t 2 (.int .i64 t.args.length)), (15, .t 2 (.int .i64 k))] [(0, bxO ty0 (L0 (visL step s1 (t.op, t.n) (t.args.take k)))), (1, teO t)] 2 24 [.any, .any, .any, .ptr 0 0 c0]) (fun k => k ≤ t.args.length) (fun k => t.args.length - k) ?_ ?_
 ·refine ⟨0, by omega, ?_⟩
  rw [show visL step s1 (t.op, t.n) (t.args.take 0) = s1 from by rw [List.take_zero, visL]]
  refine wk_list [(0, some 0), (1, some 1)] rfl ?_ ?_ ?_ ?_
  all_goals try simp [teO, bxO, tmV, ghB, List.range_succ, hi0, ho0, hw0, hc0]
 intro k hk
 refine rgS fun K hK => ?_
 simp (disch := omega)
 and_intros <;> try first | apply hK | omega | rfl | simp <;> omega
 refine awp_seq ?_
 by_cases hkl : k < t.args.length
 ·obtain ⟨b, hb⟩ : ∃ b, b = t.args[k] := ⟨_, rfl⟩
  have hcut := cellsL_cut t.args k hkl
  rw [← hb, Tm.cells_eq] at hcut
  have ham : b ∈ t.args := by rw [hb]; exact List.getElem_mem hkl
  have hlt := sz_arg ham
  have htv := take_vis step s1 (t.op, t.n) hkl
  rw [← hb] at htv
  have hA := ih b.sz (by omega) b rfl (visL step s1 (t.op, t.n) (t.args.take k)) (t.op, t.n) (okL'_all.1 hokl b ham) (by omega)
  rw [← htv] at hA
  refine condT (by simp [hkl] <;> omega) ?_
  refine awp_skip ?_
  show awp _ _ _ _
  refine awp_seq ?_
  refine awp_block ?_
  refine rgS fun K hK => ?_
  simp (disch := omega) [hcut, hkl, teO]
  and_intros <;> try first | apply hK | omega | rfl | simp <;> omega
  refine rgL fun K hK => ?_
  simp (disch := omega) [teO]
  (repeat' apply And.intro)
  all_goals (try omega)
  refine call_ruleK (caps := []) (hA) [0] [0] 1 rfl rfl rfl rfl (by kernel_rfl) (by simp) ?_ ?_ (by simp) rfl (by simp) ⟨.inr (.inr ⟨rfl, by simp, by simp⟩), trivial⟩ (by simp [tmV, abV, bxO, teO, hi0, ho0, hw0, hc0]) ?_
  ·simp [tmV, abV, bxO, teO, hi0, ho0, hw0, hc0]
  ·simp [tmV, abV, bxO, teO, hi0, ho0, hw0, hc0]
  simp (disch := omega) [teO, bxO, hi0, ho0, hw0, hc0]
  and_intros <;> try first | apply hK | omega | rfl | simp <;> omega
  show awp _ _ _ _
  refine rgL fun K hK => ?_
  simp (disch := omega)
  (repeat' first | apply hK | apply And.intro) <;> try first | omega | rfl | (simp <;> omega)
  refine ⟨k + 1, by omega, by omega, ?_⟩
  refine wk_list [(0, some 0), (1, some 1)] rfl ?_ ?_ ?_ ?_
  all_goals try simp [teO, bxO, hi0, ho0, hw0, hc0]
 ·obtain rfl : k = t.args.length := by omega
  rw [List.take_length]
  refine condF (by simp <;> omega) ?_
  refine awp_exit ?_
  refine ⟨⟨.inl rfl, _, [(0, some 0)], rfl, ?_, ?_, ?_, ?_⟩, ?_⟩
  all_goals simp [bxO, ghB, List.range_succ, tmV, abV, hi0, ho0, hw0, hc0]


theorem visit2_fn {S : Type} {L0 : S → List T} {L1 : S → List T} {ty0 c0 : Nat} {ty1 c1 : Nat} {F : FuncId} (hF : bodied Tryz.prog F = true) (step : S → Int × Int → Int × Int → S) (hs0 : ∀ s, ∀ x ∈ L0 s, scal x = true) (hc0 : ∀ s, (L0 s).length = c0) (hs1 : ∀ s, ∀ x ∈ L1 s, scal x = true) (hc1 : ∀ s, (L1 s).length = c1)
  (h : ∀ (s : S) (t : Tm) (a : Int × Int), t.ok = true → FnS Tryz.prog F [tmV 0 t, abV a, .ptr 0 0 c0, .ptr 1 0 c1] [bxO ty0 (L0 s), bxO ty1 (L1 s)] (.tup []) [bxO ty0 (L0 (step s (t.op, t.n) a)), bxO ty1 (L1 (step s (t.op, t.n) a))]) :
  ∀ (t : Tm) (s : S) (a : Int × Int), t.ok = true → t.sz ≤ 1000 → FnK Tryz.prog 83 [tmV 0 t, abV a, .fn F [.ptr 0 0 c0, .ptr 1 0 c1]] [bxO ty0 (L0 s), bxO ty1 (L1 s)] (.tup []) [bxO ty0 (L0 (t.vis step s a)), bxO ty1 (L1 (t.vis step s a))] (List.range 2) := by
 have hi0 : ∀ (H : Nat → Option AObj) (pi : List Nat) (q : Nat) (s : S), inPs H pi q (scC (L0 s)) (scC (L0 s)) = True := fun H pi q s => scC_in (hs0 s)
 have ho0 : ∀ (po : List Nat) (q : Nat) (s : S), outVs po q (scC (L0 s)) = scC (L0 s) := fun po q s => scC_out (hs0 s)
 have hw0 : ∀ (H : Nat → Option AObj) (m : Nat → Option Nat) (un : Nat → Prop) (nx : Nat) (s : S), wkPs H m un nx (scC (L0 s)) (scC (L0 s)) = True := fun H m un nx s => scC_wk (L0 s)
 have hi1 : ∀ (H : Nat → Option AObj) (pi : List Nat) (q : Nat) (s : S), inPs H pi q (scC (L1 s)) (scC (L1 s)) = True := fun H pi q s => scC_in (hs1 s)
 have ho1 : ∀ (po : List Nat) (q : Nat) (s : S), outVs po q (scC (L1 s)) = scC (L1 s) := fun po q s => scC_out (hs1 s)
 have hw1 : ∀ (H : Nat → Option AObj) (m : Nat → Option Nat) (un : Nat → Prop) (nx : Nat) (s : S), wkPs H m un nx (scC (L1 s)) (scC (L1 s)) = True := fun H m un nx s => scC_wk (L1 s)
 intro t
 induction hsz : t.sz using Nat.strongRecOn generalizing t with
 | _ q ih =>
 intro s a ho hq
 have hokl : okL' t.args = true := by rw [ok_eq, Bool.and_eq_true] at ho; exact ho.2
 have hF1 := h s t a ho
 have hsl := szL_ge t.args
 have hse := sz_eq t
 rw [vis_eq]
 refine fn_introKB 2 (fun k => if k = 0 then c0 else c1) (fun k hk => by
  rcases (by omega : k = 0 ∨ k = 1) with rfl | rfl
  ·exact ⟨_, _, rfl, by simp [hc0]⟩
  ·exact ⟨_, _, rfl, by simp [hc1]⟩) (fun k hk => by
  rcases (by omega : k = 0 ∨ k = 1) with rfl | rfl
  ·exact ⟨_, _, rfl, by simp [hc0]⟩
  ·exact ⟨_, _, rfl, by simp [hc1]⟩) Tryz.func83 rfl (by simp [Tryz.f83]) ?_
 rw [show Tryz.f83.ntmps = 24 from rfl, show Tryz.f83.results = #[] from rfl]
 generalize step s (t.op, t.n) a = s1 at hF1 ⊢
 refine rgS fun K hK => ?_
 simp (disch := omega) [tmV, abV]
 and_intros <;> try first | apply hK | omega | rfl | simp <;> omega
 refine rgS fun K hK => ?_
 simp (disch := omega) [tsTerm]
 (repeat' apply And.intro)
 all_goals (try omega)
 refine call_rule (caps := [.ptr 0 0 c0, .ptr 1 0 c1]) (hF1) [0, 1] [0, 1] 1 rfl rfl rfl (by simp) (by first | assumption | kernel_rfl) (by simp) ?_ ?_ (by simp) rfl (by simp) ⟨.inr ⟨rfl, 2, _, _, _, _, _, rfl, rfl, (by first | rfl | simp [tmV, abV, bxO, hi0, ho0, hw0, hc0, hi1, ho1, hw1, hc1]), rfl, (by first | rfl | simp [tmV, abV, bxO, hi0, ho0, hw0, hc0, hi1, ho1, hw1, hc1])⟩, .inr ⟨rfl, 3, _, _, _, _, _, rfl, rfl, (by first | rfl | simp [tmV, abV, bxO, hi0, ho0, hw0, hc0, hi1, ho1, hw1, hc1]), rfl, (by first | rfl | simp [tmV, abV, bxO, hi0, ho0, hw0, hc0, hi1, ho1, hw1, hc1])⟩, trivial⟩ (by simp [tmV, abV, bxO, hi0, ho0, hw0, hc0, hi1, ho1, hw1, hc1]) ?_
 ·simp [tmV, abV, bxO, hi0, ho0, hw0, hc0, hi1, ho1, hw1, hc1]
 ·simp [tmV, abV, bxO, hi0, ho0, hw0, hc0, hi1, ho1, hw1, hc1]
 simp (disch := omega) [bxO, hi0, ho0, hw0, hc0, hi1, ho1, hw1, hc1]
 and_intros <;> try first | apply hK | omega | rfl | simp <;> omega
 refine rgS fun K hK => ?_
 simp (disch := omega)
 and_intros <;> try first | apply hK | omega | rfl | simp <;> omega
 refine awp_block ?_
 refine awp_loop (fun k : Nat => mkS [(2, .fn F [.ptr 0 0 c0, .ptr 1 0 c1]), (3, .ptr 2 0 3), (13, .t 0 (.sl 3 (cellsL t.args))), (14, .t 2 (.int .i64 t.args.length)), (15, .t 2 (.int .i64 k))] [(0, bxO ty0 (L0 (visL step s1 (t.op, t.n) (t.args.take k)))), (1, bxO ty1 (L1 (visL step s1 (t.op, t.n) (t.args.take k)))), (2, teO t)] 3 24 [.any, .any, .any, .ptr 0 0 c0, .ptr 1 0 c1]) (fun k => k ≤ t.args.length) (fun k => t.args.length - k) ?_ ?_
 ·refine ⟨0, by omega, ?_⟩
  rw [show visL step s1 (t.op, t.n) (t.args.take 0) = s1 from by rw [List.take_zero, visL]]
  refine wk_list [(0, some 0), (1, some 1), (2, some 2)] rfl ?_ ?_ ?_ ?_
  all_goals try simp [teO, bxO, tmV, ghB, List.range_succ, hi0, ho0, hw0, hc0, hi1, ho1, hw1, hc1]
 intro k hk
 refine rgS fun K hK => ?_
 simp (disch := omega)
 and_intros <;> try first | apply hK | omega | rfl | simp <;> omega
 refine awp_seq ?_
 by_cases hkl : k < t.args.length
 ·obtain ⟨b, hb⟩ : ∃ b, b = t.args[k] := ⟨_, rfl⟩
  have hcut := cellsL_cut t.args k hkl
  rw [← hb, Tm.cells_eq] at hcut
  have ham : b ∈ t.args := by rw [hb]; exact List.getElem_mem hkl
  have hlt := sz_arg ham
  have htv := take_vis step s1 (t.op, t.n) hkl
  rw [← hb] at htv
  have hA := ih b.sz (by omega) b rfl (visL step s1 (t.op, t.n) (t.args.take k)) (t.op, t.n) (okL'_all.1 hokl b ham) (by omega)
  rw [← htv] at hA
  refine condT (by simp [hkl] <;> omega) ?_
  refine awp_skip ?_
  show awp _ _ _ _
  refine awp_seq ?_
  refine awp_block ?_
  refine rgS fun K hK => ?_
  simp (disch := omega) [hcut, hkl, teO]
  and_intros <;> try first | apply hK | omega | rfl | simp <;> omega
  refine rgL fun K hK => ?_
  simp (disch := omega) [teO]
  (repeat' apply And.intro)
  all_goals (try omega)
  refine call_ruleK (caps := []) (hA) [0, 1] [0, 1] 1 rfl rfl rfl rfl (by kernel_rfl) (by simp) ?_ ?_ (by simp) rfl (by simp) ⟨.inr (.inr ⟨rfl, by simp, by simp⟩), .inr (.inr ⟨rfl, by simp, by simp⟩), trivial⟩ (by simp [tmV, abV, bxO, teO, hi0, ho0, hw0, hc0, hi1, ho1, hw1, hc1]) ?_
  ·simp [tmV, abV, bxO, teO, hi0, ho0, hw0, hc0, hi1, ho1, hw1, hc1]
  ·simp [tmV, abV, bxO, teO, hi0, ho0, hw0, hc0, hi1, ho1, hw1, hc1]
  simp (disch := omega) [teO, bxO, hi0, ho0, hw0, hc0, hi1, ho1, hw1, hc1]
  and_intros <;> try first | apply hK | omega | rfl | simp <;> omega
  show awp _ _ _ _
  refine rgL fun K hK => ?_
  simp (disch := omega)
  (repeat' first | apply hK | apply And.intro) <;> try first | omega | rfl | (simp <;> omega)
  refine ⟨k + 1, by omega, by omega, ?_⟩
  refine wk_list [(0, some 0), (1, some 1), (2, some 2)] rfl ?_ ?_ ?_ ?_
  all_goals try simp [teO, bxO, hi0, ho0, hw0, hc0, hi1, ho1, hw1, hc1]
 ·obtain rfl : k = t.args.length := by omega
  rw [List.take_length]
  refine condF (by simp <;> omega) ?_
  refine awp_exit ?_
  refine ⟨⟨.inl rfl, _, [(0, some 0), (1, some 1)], rfl, ?_, ?_, ?_, ?_⟩, ?_⟩
  all_goals simp [bxO, ghB, List.range_succ, tmV, abV, hi0, ho0, hw0, hc0, hi1, ho1, hw1, hc1]

end Go.Proofs.YtghnmmfkckneaaaGreat.M

namespace Go.Proofs.YtghnmmfkckneaaaGreat.M
open Go.RowKit
set_option linter.unusedVariables false
set_option maxRecDepth 100000
set_option maxHeartbeats 32000000
attribute [local simp] ints rows scal wr64 wr8
set_option linter.unusedSimpArgs false

def vaS (s : Int) (h a : Int × Int) : Int := if h.1 = 2 then (if s < h.2 + 1 then h.2 + 1 else s) else s
def hoS (s : Bool) (h a : Int × Int) : Bool := s || decide (h.1 = 1)
mutual
theorem vis_va : ∀ (t : Tm) (s : Int) (a : Int × Int), t.ok = true → 0 ≤ s → t.vis vaS s a = max s (t.gr : Int)
 | .mk o n l, s, a, hok, hs => by
  obtain ⟨hwf, hl⟩ := ok_wf hok
  rw [Tm.vis, Tm.gr]
  have h1 : vaS s (o, n) a = max s ((if o = 2 then n.toNat + 1 else 0 : Nat) : Int) := by
   unfold vaS
   by_cases h : o = 2
   ·rw [if_pos h, if_pos h]; simp only; split <;> omega
   ·rw [if_neg h, if_neg h]; omega
  rw [h1, visL_va l _ _ hl (by omega)]
  omega
theorem visL_va : ∀ (l : List Tm) (s : Int) (a : Int × Int), okL' l = true → 0 ≤ s → visL vaS s a l = max s (grL l : Int)
 | [], s, a, _, hs => by rw [visL, grL]; omega
 | t :: l, s, a, hok, hs => by
  have hok2 : t.ok = true ∧ okL' l = true := by simpa [okL'] using hok
  rw [visL, grL, vis_va t s a hok2.1 hs, visL_va l _ a hok2.2 (by omega)]
  omega
end
mutual
theorem vis_ho : ∀ (t : Tm) (s : Bool) (a : Int × Int), t.vis hoS s a = (s || t.has1)
 | .mk o n l, s, a => by
  rw [Tm.vis, Tm.has1, visL_ho l]
  unfold hoS
  rw [Bool.or_assoc]
theorem visL_ho : ∀ (l : List Tm) (s : Bool) (a : Int × Int), visL hoS s a l = (s || has1L l)
 | [], s, a => by rw [visL, has1L, Bool.or_false]
 | t :: l, s, a => by rw [visL, has1L, vis_ho t s a, visL_ho l, Bool.or_assoc]
end
theorem grL_take {l : List Tm} {k : Nat} (h : k < l.length) : grL (l.take (k + 1)) = max (grL (l.take k)) l[k].gr := by
 have : ∀ l r : List Tm, grL (l ++ r) = max (grL l) (grL r) := fun l r => by
  induction l with
  | nil => rw [List.nil_append, grL]; omega
  | cons a l ih => rw [List.cons_append, grL, grL, ih]; omega
 rw [List.take_succ_eq_append_getElem h, this, grL, grL]
 omega
theorem has1L_take {l : List Tm} {k : Nat} (h : k < l.length) : has1L (l.take (k + 1)) = (has1L (l.take k) || l[k].has1) := by
 have : ∀ l r : List Tm, has1L (l ++ r) = (has1L l || has1L r) := fun l r => by
  induction l with
  | nil => rw [List.nil_append, has1L, Bool.false_or]
  | cons a l ih => rw [List.cons_append, has1L, has1L, ih, Bool.or_assoc]
 rw [List.take_succ_eq_append_getElem h, this, has1L, has1L, Bool.or_false]
def inL (s : Int) : List T := [.int .i64 s]
def boL (s : Bool) : List T := [.bool s]
theorem tsInt (h : 3 < Tryz.prog.types.size) : (Tryz.prog.types[3]'h).size = 1 := by rfl
theorem tsBool (h : 4 < Tryz.prog.types.size) : (Tryz.prog.types[4]'h).size = 1 := by rfl
theorem vars1_fn (s : Int) (t : Tm) (a : Int × Int) (ho : t.ok = true) : FnS Tryz.prog 84 [tmV 0 t, abV a, .ptr 0 0 1] [bxO 3 (inL s)] (.tup []) [bxO 3 (inL (vaS s (t.op, t.n) a))] := by
 have hwf : t.wf = true := by rw [ok_eq, Bool.and_eq_true] at ho; exact ho.1
 unfold Tm.wf at hwf
 rw [decide_eq_true_iff] at hwf
 refine fn_intro Tryz.func84 rfl (by simp [Tryz.f84]) ?_
 rw [show Tryz.f84.ntmps = 13 from rfl, show Tryz.f84.results = #[] from rfl]
 refine rgS fun K hK => ?_
 simp (disch := omega) [tmV, abV, bxO, scC, inL]
 and_intros <;> try first | apply hK | omega | rfl | simp <;> omega
 refine rgS fun K hK => ?_
 simp (disch := omega) [tsTerm, bxO, scC, inL]
 (repeat' first | apply hK | apply And.intro) <;> try first | omega | rfl | (simp <;> omega)
 by_cases e : t.op = 2
 ·have hr : vaS s (t.op, t.n) a = if s < t.n + 1 then t.n + 1 else s := by unfold vaS; rw [if_pos e]
  refine condT (by simp [e] <;> omega) ?_
  refine rgL fun K hK => ?_
  simp (disch := omega) [bxO, scC, inL]
  (repeat' first | apply hK | apply And.intro) <;> try first | omega | rfl | (simp <;> omega)
  refine ⟨_, [(0, some 0)], (by first | rfl | (simp [tmV, abV, bxO, scC, inL, hr]; rfl)), ?_, ?_, ?_, ?_⟩
  all_goals try simp [tmV, abV, bxO, scC, inL, hr]
 ·have hr : vaS s (t.op, t.n) a = s := by unfold vaS; rw [if_neg e]
  refine condF (by simp [e] <;> omega) ?_
  refine awp_skip ?_
  refine ⟨⟨.inl rfl, _, [(0, some 0)], rfl, ?_, ?_, ?_, ?_⟩, ?_⟩
  all_goals simp [tmV, abV, bxO, scC, inL, hr]
theorem hasOne1_fn (s : Bool) (t : Tm) (a : Int × Int) (ho : t.ok = true) : FnS Tryz.prog 89 [tmV 0 t, abV a, .ptr 0 0 1] [bxO 4 (boL s)] (.tup []) [bxO 4 (boL (hoS s (t.op, t.n) a))] := by
 refine fn_intro Tryz.func89 rfl (by simp [Tryz.f89]) ?_
 rw [show Tryz.f89.ntmps = 11 from rfl, show Tryz.f89.results = #[] from rfl]
 refine rgS fun K hK => ?_
 simp (disch := omega) [tmV, abV, bxO, scC, boL]
 (repeat' first | apply hK | apply And.intro) <;> try first | omega | rfl | (simp <;> omega)
 cases s with
 | true =>
  refine rgL fun K hK => ?_
  simp (disch := omega) [tsTerm, bxO, scC, boL]
  (repeat' first | apply hK | apply And.intro) <;> try first | omega | rfl | (simp <;> omega)
  refine ⟨_, [(0, some 0)], (by first | rfl | (simp [tmV, abV, bxO, scC, boL, hoS]; rfl)), ?_, ?_, ?_, ?_⟩
  all_goals try simp [tmV, abV, bxO, scC, boL, hoS]
 | false =>
  refine rgL fun K hK => ?_
  simp (disch := omega) [tsTerm, bxO, scC, boL]
  (repeat' first | apply hK | apply And.intro) <;> try first | omega | rfl | (simp <;> omega)
  refine ⟨_, [(0, some 0)], (by first | rfl | (simp [tmV, abV, bxO, scC, boL, hoS]; rfl)), ?_, ?_, ?_, ?_⟩
  all_goals try simp [tmV, abV, bxO, scC, boL, hoS]
  all_goals (by_cases h : t.op = 1 <;> simp [h])
theorem vars_fn (ts : List Tm) (hts : ts.length ≤ 1000) (hok : ∀ t ∈ ts, t.ok = true ∧ t.sz ≤ 1000) : FnA Tryz.prog 48 [.t 0 (.sl 3 (cellsL ts))] (.t 2 (.int .i64 (grL ts : Nat))) := by
 refine fn_intro Tryz.func48 rfl (by simp [Tryz.f48]) ?_
 rw [show Tryz.f48.ntmps = 18 from rfl, show Tryz.f48.results = #[.tmp 2] from rfl]
 refine rgS fun K hK => ?_
 simp (disch := omega)
 and_intros <;> try first | apply hK | omega | rfl | simp <;> omega
 refine rgS fun K hK => ?_
 simp (disch := omega) [tsInt]
 and_intros <;> try first | apply hK | omega | rfl | simp <;> omega
 refine awp_seq ?_
 refine rgS fun K hK => ?_
 simp (disch := omega)
 and_intros <;> try first | apply hK | omega | rfl | simp <;> omega
 refine awp_block ?_
 refine awp_loop (fun k : Nat => mkS [(3, .ptr 0 0 1), (6, .t 0 (.sl 3 (cellsL ts))), (7, .t 2 (.int .i64 ts.length)), (8, .t 2 (.int .i64 k))] [(0, bxO 3 (inL (grL (ts.take k) : Nat)))] 1 18 [.any]) (fun k => k ≤ ts.length) (fun k => ts.length - k) ?_ ?_
 ·refine ⟨0, by omega, ?_⟩
  refine wk_list [(0, some 1000000)] rfl ?_ ?_ ?_ ?_
  all_goals try simp [bxO, scC, inL, grL, tsInt]
 intro k hk
 refine rgS fun K hK => ?_
 simp (disch := omega)
 and_intros <;> try first | apply hK | omega | rfl | simp <;> omega
 refine awp_seq ?_
 by_cases hkl : k < ts.length
 ·obtain ⟨b, hb⟩ : ∃ b, b = ts[k] := ⟨_, rfl⟩
  have hcut := cellsL_cut ts k hkl
  have hgt := grL_take hkl
  rw [← hb] at hcut hgt
  rw [Tm.cells_eq] at hcut
  obtain ⟨hbo, hbs⟩ := hok b (by rw [hb]; exact List.getElem_mem hkl)
  have hV := visit1_fn (S := Int) (L0 := inL) (ty0 := 3) (c0 := 1) (F := 84) (by kernel_rfl) vaS (fun s x hx => by simp [inL] at hx; subst hx; rfl) (fun s => rfl) vars1_fn b (grL (ts.take k) : Nat) (0, 0) hbo hbs
  rw [vis_va b _ _ hbo (by omega), show max ((grL (ts.take k) : Nat) : Int) (b.gr : Int) = ((grL (ts.take (k + 1)) : Nat) : Int) by rw [hgt]; omega] at hV
  refine condT (by simp [hkl] <;> omega) ?_
  refine awp_skip ?_
  show awp _ _ _ _
  refine awp_seq ?_
  refine awp_block ?_
  refine rgS fun K hK => ?_
  simp (disch := omega) [hcut, hkl]
  and_intros <;> try first | apply hK | omega | rfl | simp <;> omega
  refine rgL fun K hK => ?_
  simp (disch := omega) [tsTerm]
  (repeat' apply And.intro)
  all_goals (try omega)
  refine call_ruleK (caps := []) (hV) [0] [0] 1 rfl rfl rfl rfl (by kernel_rfl) (by simp) ?_ ?_ (by simp) rfl (by simp) ⟨.inr (.inr ⟨rfl, by simp, by simp⟩), trivial⟩ (by simp [tmV, abV, bxO, scC, inL]) ?_
  ·simp [tmV, abV, bxO, scC, inL]
  ·simp [tmV, abV, bxO, scC, inL]
  simp (disch := omega) [bxO, scC, inL]
  and_intros <;> try first | apply hK | omega | rfl | simp <;> omega
  show awp _ _ _ _
  refine rgL fun K hK => ?_
  simp (disch := omega)
  (repeat' first | apply hK | apply And.intro) <;> try first | omega | rfl | (simp <;> omega)
  refine ⟨k + 1, by omega, by omega, ?_⟩
  refine wk_list [(0, some 0)] rfl ?_ ?_ ?_ ?_
  all_goals try simp [bxO, scC, inL]
 ·obtain rfl : k = ts.length := by omega
  rw [List.take_length]
  refine condF (by simp <;> omega) ?_
  refine awp_exit ?_
  show awp _ _ _ _
  refine rgS fun K hK => ?_
  simp (disch := omega) [bxO, scC, inL]
  and_intros <;> try first | apply hK | omega | rfl | simp <;> omega
  refine awp_ret ?_
  refine ⟨⟨.inr rfl, _, [], rfl, trivial, trivial, by simp, ?_⟩, by simp⟩
  simp
theorem hasOne_fn (ts : List Tm) (hts : ts.length ≤ 1000) (hok : ∀ t ∈ ts, t.ok = true ∧ t.sz ≤ 1000) : FnA Tryz.prog 50 [.t 0 (.sl 3 (cellsL ts))] (.t 2 (.bool (has1L ts))) := by
 refine fn_intro Tryz.func50 rfl (by simp [Tryz.f50]) ?_
 rw [show Tryz.f50.ntmps = 18 from rfl, show Tryz.f50.results = #[.tmp 2] from rfl]
 refine rgS fun K hK => ?_
 simp (disch := omega)
 and_intros <;> try first | apply hK | omega | rfl | simp <;> omega
 refine rgS fun K hK => ?_
 simp (disch := omega) [tsBool]
 and_intros <;> try first | apply hK | omega | rfl | simp <;> omega
 refine awp_seq ?_
 refine rgS fun K hK => ?_
 simp (disch := omega)
 and_intros <;> try first | apply hK | omega | rfl | simp <;> omega
 refine awp_block ?_
 refine awp_loop (fun k : Nat => mkS [(3, .ptr 0 0 1), (6, .t 0 (.sl 3 (cellsL ts))), (7, .t 2 (.int .i64 ts.length)), (8, .t 2 (.int .i64 k))] [(0, bxO 4 (boL (has1L (ts.take k))))] 1 18 [.any]) (fun k => k ≤ ts.length) (fun k => ts.length - k) ?_ ?_
 ·refine ⟨0, by omega, ?_⟩
  refine wk_list [(0, some 1000000)] rfl ?_ ?_ ?_ ?_
  all_goals try simp [bxO, scC, boL, has1L, tsBool]
 intro k hk
 refine rgS fun K hK => ?_
 simp (disch := omega)
 and_intros <;> try first | apply hK | omega | rfl | simp <;> omega
 refine awp_seq ?_
 by_cases hkl : k < ts.length
 ·obtain ⟨b, hb⟩ : ∃ b, b = ts[k] := ⟨_, rfl⟩
  have hcut := cellsL_cut ts k hkl
  have hgt := has1L_take hkl
  rw [← hb] at hcut hgt
  rw [Tm.cells_eq] at hcut
  obtain ⟨hbo, hbs⟩ := hok b (by rw [hb]; exact List.getElem_mem hkl)
  have hV := visit1_fn (S := Bool) (L0 := boL) (ty0 := 4) (c0 := 1) (F := 89) (by kernel_rfl) hoS (fun s x hx => by simp [boL] at hx; subst hx; rfl) (fun s => rfl) hasOne1_fn b (has1L (ts.take k)) (0, 0) hbo hbs
  rw [vis_ho b, ← hgt] at hV
  refine condT (by simp [hkl] <;> omega) ?_
  refine awp_skip ?_
  show awp _ _ _ _
  refine awp_seq ?_
  refine awp_block ?_
  refine rgS fun K hK => ?_
  simp (disch := omega) [hcut, hkl]
  and_intros <;> try first | apply hK | omega | rfl | simp <;> omega
  refine rgL fun K hK => ?_
  simp (disch := omega) [tsTerm]
  (repeat' apply And.intro)
  all_goals (try omega)
  refine call_ruleK (caps := []) (hV) [0] [0] 1 rfl rfl rfl rfl (by kernel_rfl) (by simp) ?_ ?_ (by simp) rfl (by simp) ⟨.inr (.inr ⟨rfl, by simp, by simp⟩), trivial⟩ (by simp [tmV, abV, bxO, scC, boL]) ?_
  ·simp [tmV, abV, bxO, scC, boL]
  ·simp [tmV, abV, bxO, scC, boL]
  simp (disch := omega) [bxO, scC, boL]
  and_intros <;> try first | apply hK | omega | rfl | simp <;> omega
  show awp _ _ _ _
  refine rgL fun K hK => ?_
  simp (disch := omega)
  (repeat' first | apply hK | apply And.intro) <;> try first | omega | rfl | (simp <;> omega)
  refine ⟨k + 1, by omega, by omega, ?_⟩
  refine wk_list [(0, some 0)] rfl ?_ ?_ ?_ ?_
  all_goals try simp [bxO, scC, boL]
 ·obtain rfl : k = ts.length := by omega
  rw [List.take_length]
  refine condF (by simp <;> omega) ?_
  refine awp_exit ?_
  show awp _ _ _ _
  refine rgS fun K hK => ?_
  simp (disch := omega) [bxO, scC, boL]
  and_intros <;> try first | apply hK | omega | rfl | simp <;> omega
  refine awp_ret ?_
  refine ⟨⟨.inr rfl, _, [], rfl, trivial, trivial, by simp, ?_⟩, by simp⟩
  simp
theorem vId_0 {a b : Tm} (h : a.val = true ∧ b.val = true) : vId a b = 0 := by unfold vId vTm; rw [if_pos h.1, if_pos h.2]
theorem vId_1 {a b : Tm} (h : ¬ (a.val = true ∧ b.val = true)) : vId a b = 21 := by
 unfold vId vTm
 by_cases h1 : a.val = true
 ·rw [if_pos h1, if_neg (fun h2 => h ⟨h1, h2⟩)]
 ·rw [if_neg h1]
theorem range_6 : List.range 6 = [0, 1, 2, 3, 4, 5] := rfl
def varsI (a b : Tm) : Nat := if a.val = true ∧ b.val = true then max a.gr b.gr else 0
theorem pair_ok {a b : Tm} (h : a.val = true ∧ b.val = true) : ∀ t ∈ [a, b], t.ok = true ∧ t.sz ≤ 1000 := fun t ht => by
 simp at ht
 rcases ht with rfl | rfl
 ·have := val_ok h.1; exact ⟨this.1, by omega⟩
 ·have := val_ok h.2; exact ⟨this.1, by omega⟩
theorem cells2 (a b : Tm) : cellsL [a, b] = [.int .i64 a.op, .int .i64 a.n, .sl 3 (cellsL a.args), .int .i64 b.op, .int .i64 b.n, .sl 3 (cellsL b.args)] := by
 show a.cells ++ (b.cells ++ []) = _
 rw [Tm.cells_eq, Tm.cells_eq]
 rfl
end Go.Proofs.YtghnmmfkckneaaaGreat.M

namespace Go.Proofs.YtghnmmfkckneaaaGreat.M
open Go.RowKit
set_option linter.unusedVariables false
set_option maxRecDepth 100000
set_option maxHeartbeats 32000000
attribute [local simp] ints rows scal wr64 wr8
set_option linter.unusedSimpArgs false

theorem mulVal_fn (t : List (List Int)) : FnA Tryz.prog 46 [.t 0 (rows t)] (.t 2 (.int .i64 (vErr t))) := by
 intro w V ob vs hm hn hv
 have g0 := (hv 0 _ rfl).rep
 rw [vs1 hn]
 refine (validate_any w _ t (rep_rows mem_cell g0)).mono ?_
 rintro e w' ⟨rfl, hbel⟩
 exact ⟨_, ob, rfl, hm.after hbel, .mkInt _ _ _ _, gh_any (by simp)⟩
def isId (T : Nat → Nat → Nat) (k e : Nat) : Bool := (List.range k).all fun x => decide (T e x = x) && decide (T x e = x)
theorem isId_succ (T : Nat → Nat → Nat) (k e : Nat) : isId T (k + 1) e = (isId T k e && (decide (T e k = k) && decide (T k e = k))) := by
 unfold isId
 rw [List.range_succ, List.all_append]
 simp
theorem isId_le {T : Nat → Nat → Nat} {e : Nat} : ∀ {k n : Nat}, k ≤ n → isId T k e = false → isId T n e = false := fun {k n} h hf => by
 obtain ⟨d, rfl⟩ : ∃ d, n = k + d := ⟨n - k, by omega⟩
 clear h
 induction d with
 | zero => exact hf
 | succ d ih => rw [show k + (d + 1) = (k + d) + 1 by omega, isId_succ, ih]; rfl
def idG (T : Nat → Nat → Nat) (n : Nat) : Nat → Nat → Int
 | 0, e => -1
 | f + 1, e => if isId T n e = true then (e : Int) else idG T n f (e + 1)
def idI (T : Nat → Nat → Nat) (n : Nat) : Int := idG T n n 0
theorem mulId1_fn (tb : List (List Int)) (n : Nat) (T : Nat → Nat → Nat) (ht : TbL tb n T) (hn : n ≤ 1000) (e : Nat) (he : e < n) :
  FnS Tryz.prog 88 [.t 2 (.int .i64 (e : Nat)), .ptr 0 0 1] [.box 25 [.t 1 (rows tb)]] (.t 2 (.bool (isId T n e))) [.box 25 [.t 1 (rows tb)]] := by
 have htl := ht.len
 refine fn_intro Tryz.func88 rfl (by simp [Tryz.f88]) ?_
 rw [show Tryz.f88.ntmps = 31 from rfl, show Tryz.f88.results = #[.tmp 3] from rfl]
 refine rgS fun K hK => ?_
 simp (disch := omega)
 and_intros <;> try first | apply hK | omega | rfl | simp <;> omega
 refine awp_seq ?_
 refine rgS fun K hK => ?_
 simp (disch := omega)
 and_intros <;> try first | apply hK | omega | rfl | simp <;> omega
 refine awp_block ?_
 refine awp_loop (fun k : Nat => mkS [(0, .t 2 (.int .i64 (e : Nat))), (1, .ptr 0 0 1), (6, .t 2 (.int .i64 (n : Nat))), (7, .t 2 (.int .i64 (k : Nat)))] [(0, .box 25 [.t 1 (rows tb)])] 1 31 [.any, .ptr 0 0 1]) (fun k => k ≤ n ∧ isId T k e = true) (fun k => n - k) ?_ ?_
 ·refine ⟨0, ⟨by omega, rfl⟩, ?_⟩
  refine wk_list [(0, some 0)] rfl ?_ ?_ ?_ ?_
  all_goals try simp [htl]
 rintro k ⟨hk, hid⟩
 refine rgS fun K hK => ?_
 simp (disch := omega)
 and_intros <;> try first | apply hK | omega | rfl | simp <;> omega
 refine awp_seq ?_
 by_cases hkn : k < n
 ·obtain ⟨g1, g2, g3⟩ := ht.get he hkn
  obtain ⟨g4, g5, g6⟩ := ht.get hkn he
  have hs := isId_succ T k e
  rw [hid, Bool.true_and] at hs
  refine condT (by simp [hkn] <;> omega) ?_
  refine awp_skip ?_
  show awp _ _ _ _
  refine awp_seq ?_
  refine awp_block ?_
  refine rgS fun K hK => ?_
  simp (disch := omega)
  (repeat' first | apply hK | apply And.intro) <;> try first | omega | rfl | (simp <;> omega)
  by_cases e1 : T e k = k
  ·by_cases e2 : T k e = k
   ·have hgo : isId T (k + 1) e = true := by rw [hs]; simp [e1, e2]
    have e1' : ((T e k : Nat) : Int) = (k : Int) := by rw [e1]
    have e2' : ((T k e : Nat) : Int) = (k : Int) := by rw [e2]
    refine rgS fun K hK => ?_
    simp (disch := omega) [g1, g2, g3, g4, g5, g6, e1, e2]
    and_intros <;> try first | apply hK | omega | rfl | simp <;> omega
    refine condF (by simp [e1, e2] <;> omega) ?_
    refine awp_skip ?_
    show awp _ _ _ _
    refine rgL fun K hK => ?_
    simp (disch := omega)
    (repeat' first | apply hK | apply And.intro) <;> try first | omega | rfl | (simp <;> omega)
    refine ⟨k + 1, ⟨by omega, hgo⟩, by omega, ?_⟩
    refine wk_list [(0, some 0)] rfl ?_ ?_ ?_ ?_
    all_goals try simp
   ·have hno : isId T n e = false := isId_le (k := k + 1) (by omega) (by rw [hs]; simp [e2])
    refine rgS fun K hK => ?_
    simp (disch := omega) [g1, g2, g3, g4, g5, g6, e1, e2]
    and_intros <;> try first | apply hK | omega | rfl | simp <;> omega
    refine condT (by simp [e1, e2] <;> omega) ?_
    refine rgS fun K hK => ?_
    simp (disch := omega)
    and_intros <;> try first | apply hK | omega | rfl | simp <;> omega
    refine awp_ret ?_
    refine ⟨⟨.inr rfl, _, [(0, some 0)], (by first | rfl | (simp [hno]; rfl)), ?_, ?_, ?_, ?_⟩, ?_⟩
    all_goals try simp [hno]
  ·have hno : isId T n e = false := isId_le (k := k + 1) (by omega) (by rw [hs]; simp [e1])
   have e1b : (((T e k : Nat) : Int) != (k : Int)) = true := by simp; omega
   refine rgS fun K hK => ?_
   simp (disch := omega) [g1, g2, g3, g4, g5, g6, e1, e1b]
   and_intros <;> try first | apply hK | omega | rfl | simp <;> omega
   refine condT (by simp [e1] <;> omega) ?_
   refine rgS fun K hK => ?_
   simp (disch := omega)
   and_intros <;> try first | apply hK | omega | rfl | simp <;> omega
   refine awp_ret ?_
   refine ⟨⟨.inr rfl, _, [(0, some 0)], (by first | rfl | (simp [hno]; rfl)), ?_, ?_, ?_, ?_⟩, ?_⟩
   all_goals try simp [hno]
 ·obtain rfl : k = n := by omega
  refine condF (by simp <;> omega) ?_
  refine awp_exit ?_
  show awp _ _ _ _
  refine rgS fun K hK => ?_
  simp (disch := omega)
  and_intros <;> try first | apply hK | omega | rfl | simp <;> omega
  refine awp_ret ?_
  refine ⟨⟨.inr rfl, _, [(0, some 0)], (by first | rfl | (simp [hid]; rfl)), ?_, ?_, ?_, ?_⟩, ?_⟩
  all_goals try simp [hid]
theorem mulIdx_fn (tb : List (List Int)) (n : Nat) (T : Nat → Nat → Nat) (ht : TbL tb n T) (hn : n ≤ 1000) :
  FnS Tryz.prog 86 [.t 0 (ints (tab n fun i => (i : Int))), .fn 88 [.ptr 0 0 1]] [.box 25 [.t 1 (rows tb)]] (.t 2 (.int .i64 (idI T n))) [.box 25 [.t 1 (rows tb)]] := by
 refine fn_intro Tryz.func86 rfl (by simp [Tryz.f86]) ?_
 rw [show Tryz.f86.ntmps = 19 from rfl, show Tryz.f86.results = #[.tmp 4] from rfl]
 refine rgS fun K hK => ?_
 simp (disch := omega)
 and_intros <;> try first | apply hK | omega | rfl | simp <;> omega
 refine awp_seq ?_
 refine rgS fun K hK => ?_
 simp (disch := omega)
 and_intros <;> try first | apply hK | omega | rfl | simp <;> omega
 refine awp_block ?_
 refine awp_loop (fun k : Nat => mkS [(0, .t 0 (ints (tab n fun i => (i : Int)))), (1, .fn 88 [.ptr 0 0 1]), (7, .t 2 (.int .i64 (n : Nat))), (8, .t 2 (.int .i64 (k : Nat)))] [(0, .box 25 [.t 1 (rows tb)])] 1 19 [.any, .any]) (fun k => k ≤ n ∧ idI T n = idG T n (n - k) k) (fun k => n - k) ?_ ?_
 ·refine ⟨0, ⟨by omega, rfl⟩, ?_⟩
  refine wk_list [(0, some 0)] rfl ?_ ?_ ?_ ?_
  all_goals try simp
 rintro k ⟨hk, hid⟩
 refine rgS fun K hK => ?_
 simp (disch := omega)
 and_intros <;> try first | apply hK | omega | rfl | simp <;> omega
 refine awp_seq ?_
 by_cases hkn : k < n
 ·have h1 := mulId1_fn tb n T ht hn k hkn
  rw [show n - k = (n - (k + 1)) + 1 by omega, idG] at hid
  refine condT (by simp [hkn] <;> omega) ?_
  refine awp_skip ?_
  show awp _ _ _ _
  refine awp_seq ?_
  refine awp_block ?_
  refine rgS fun K hK => ?_
  simp (disch := omega)
  and_intros <;> try first | apply hK | omega | rfl | simp <;> omega
  refine rgS fun K hK => ?_
  simp (disch := omega) [hkn]
  (repeat' apply And.intro)
  all_goals (try omega)
  refine call_rule (caps := [.ptr 0 0 1]) (h1) [0] [0] 1 rfl rfl rfl (by simp) (by first | assumption | kernel_rfl) (by simp) ?_ ?_ (by simp) rfl (by simp) ⟨.inr ⟨rfl, 1, _, _, _, _, _, rfl, rfl, (by first | rfl | simp), rfl, (by first | rfl | simp)⟩, trivial⟩ (by simp) ?_
  ·simp
  ·simp
  simp (disch := omega)
  (repeat' first | apply hK | apply And.intro) <;> try first | omega | rfl | (simp <;> omega)
  by_cases e : isId T n k = true
  ·rw [if_pos e] at hid
   refine condT (by simp [e] <;> omega) ?_
   refine rgS fun K hK => ?_
   simp (disch := omega)
   and_intros <;> try first | apply hK | omega | rfl | simp <;> omega
   refine awp_ret ?_
   refine ⟨⟨.inr rfl, _, [(0, some 0)], (by first | rfl | (simp [hid]; rfl)), ?_, ?_, ?_, ?_⟩, ?_⟩
   all_goals try simp [hid]
  ·rw [if_neg e] at hid
   refine condF (by simp [e] <;> omega) ?_
   refine awp_skip ?_
   show awp _ _ _ _
   refine rgL fun K hK => ?_
   simp (disch := omega)
   (repeat' first | apply hK | apply And.intro) <;> try first | omega | rfl | (simp <;> omega)
   refine ⟨k + 1, ⟨by omega, hid⟩, by omega, ?_⟩
   refine wk_list [(0, some 0)] rfl ?_ ?_ ?_ ?_
   all_goals try simp
 ·obtain rfl : k = n := by omega
  rw [Nat.sub_self] at hid
  have hid : idI T k = -1 := hid
  refine condF (by simp <;> omega) ?_
  refine awp_exit ?_
  show awp _ _ _ _
  refine rgS fun K hK => ?_
  simp (disch := omega)
  and_intros <;> try first | apply hK | omega | rfl | simp <;> omega
  refine awp_ret ?_
  refine ⟨⟨.inr rfl, _, [(0, some 0)], (by first | rfl | (simp [hid]; rfl)), ?_, ?_, ?_, ?_⟩, ?_⟩
  all_goals try simp [hid]
theorem mulElems_fn (tb : List (List Int)) (hn : tb.length ≤ 1000000) : FnA Tryz.prog 87 [.t 0 (rows tb)] (.t 2 (ints (tab tb.length fun i => (i : Int)))) := by
 refine fn_intro Tryz.func87 rfl (by simp [Tryz.f87]) ?_
 rw [show Tryz.f87.ntmps = 19 from rfl, show Tryz.f87.results = #[.tmp 2] from rfl]
 refine rgS fun K hK => ?_
 simp (disch := omega)
 and_intros <;> try first | apply hK | omega | rfl | simp <;> omega
 refine rgS fun K hK => ?_
 simp (disch := omega)
 and_intros <;> try first | apply hK | omega | rfl | simp <;> omega
 refine awp_seq ?_
 refine rgS fun K hK => ?_
 simp (disch := omega)
 and_intros <;> try first | apply hK | omega | rfl | simp <;> omega
 refine awp_block ?_
 refine awp_loop (fun k : Nat => mkS [(3, .own 0 tb.length), (9, .t 2 (.int .i64 tb.length)), (10, .t 2 (.int .i64 k))] [(0, .row 3 1 2 (tab tb.length fun i => .int .i64 (if i < k then (i : Int) else 0)))] 1 19 [.any]) (fun k => k ≤ tb.length) (fun k => tb.length - k) ?_ ?_
 ·refine ⟨0, by omega, ?_⟩
  refine wk_list [(0, some 3000000)] rfl ?_ ?_ ?_ ?_
  all_goals try simp [rep_tab]
 ·intro k hk
  refine rgS fun K hK => ?_
  simp (disch := omega)
  (repeat' first | apply hK | apply And.intro) <;> try first | omega | rfl | (simp <;> omega)
  by_cases hlt : k < tb.length
  ·refine awp_seq ?_
   refine condT (by simp [hlt] <;> omega) ?_
   refine awp_skip ?_
   refine awp_seq ?_
   refine awp_block ?_
   refine rgS fun K hK => ?_
   simp (disch := omega)
   and_intros <;> try first | apply hK | omega | rfl | simp <;> omega
   refine rgL fun K hK => ?_
   simp (disch := omega) [hlt]
   and_intros <;> try first | apply hK | omega | rfl | simp <;> omega
   show awp _ _ _ _
   refine rgL fun K hK => ?_
   simp (disch := omega)
   (repeat' first | apply hK | apply And.intro) <;> try first | omega | rfl | (simp <;> omega)
   refine ⟨k + 1, by omega, by omega, ?_⟩
   refine wk_list [(0, some 0)] rfl ?_ ?_ ?_ ?_
   all_goals try simp
   rw [tab_set]
   refine tab_congr (fun i hi => ?_)
   by_cases e : i = k
   ·simp [e]
   ·rw [if_neg e]
    by_cases e2 : i < k
    ·rw [if_pos e2, if_pos (by omega)]
    ·rw [if_neg e2, if_neg (by omega)]
  ·refine awp_seq ?_
   refine condF (by simp [hlt] <;> omega) ?_
   refine awp_exit ?_
   show awp _ _ _ _
   refine rgS fun K hK => ?_
   simp (disch := omega)
   and_intros <;> try first | apply hK | omega | rfl | simp <;> omega
   refine awp_ret ?_
   refine ⟨⟨.inr rfl, _, [], rfl, trivial, trivial, by simp, ?_⟩, by simp⟩
   simp
   rw [tab_map]
   refine tab_congr (fun i hi => ?_)
   rw [if_pos (by omega)]
theorem mulValid_fn (tb : List (List Int)) (v1 : vErr tb = 0) : FnA Tryz.prog 85 [.t 0 (rows tb)] (.t 2 (.bool true)) := by
 have h1 := mulVal_fn tb
 rw [v1] at h1
 refine fn_intro Tryz.func85 rfl (by simp [Tryz.f85]) ?_
 rw [show Tryz.f85.ntmps = 6 from rfl, show Tryz.f85.results = #[.tmp 2] from rfl]
 refine rgS fun K hK => ?_
 simp (disch := omega)
 and_intros <;> try first | apply hK | omega | rfl | simp <;> omega
 refine rgS fun K hK => ?_
 simp (disch := omega)
 (repeat' apply And.intro)
 all_goals (try omega)
 refine callO (h1) rfl rfl rfl rfl (by kernel_rfl) (by simp) ?_ ?_
 ·simp
 simp (disch := omega)
 and_intros <;> try first | apply hK | omega | rfl | simp <;> omega
 refine awp_ret ?_
 refine ⟨⟨.inr rfl, _, [], rfl, trivial, trivial, by simp, ?_⟩, by simp⟩
 simp
theorem mulId_fn (tb : List (List Int)) (v1 : vErr tb = 0) : FnA Tryz.prog 49 [.t 0 (rows tb)] (.t 2 (.int .i64 (idI (tabOf tb) tb.length))) := by
 obtain ⟨hl0, hl4⟩ := vErr_len v1
 have h1 := mulValid_fn tb v1
 have h2 := mulElems_fn tb (by omega)
 have h3 := mulIdx_fn tb tb.length (tabOf tb) (TbL.of v1) (by omega)
 refine fn_intro Tryz.func49 rfl (by simp [Tryz.f49]) ?_
 rw [show Tryz.f49.ntmps = 10 from rfl, show Tryz.f49.results = #[.tmp 2] from rfl]
 refine rgS fun K hK => ?_
 simp (disch := omega)
 and_intros <;> try first | apply hK | omega | rfl | simp <;> omega
 refine awp_seq ?_
 refine rgS fun K hK => ?_
 simp (disch := omega)
 (repeat' apply And.intro)
 all_goals (try omega)
 refine callO (h1) rfl rfl rfl rfl (by kernel_rfl) (by simp) ?_ ?_
 ·simp
 simp (disch := omega)
 and_intros <;> try first | apply hK | omega | rfl | simp <;> omega
 refine condF (by simp <;> omega) ?_
 refine awp_skip ?_
 show awp _ _ _ _
 refine rgS fun K hK => ?_
 simp (disch := omega)
 (repeat' apply And.intro)
 all_goals (try omega)
 refine callO (h2) rfl rfl rfl rfl (by kernel_rfl) (by simp) ?_ ?_
 ·simp
 simp (disch := omega)
 (repeat' apply And.intro)
 all_goals (try omega)
 refine call_rule (caps := []) (h3) [0] [8000000] 0 rfl rfl rfl rfl (by kernel_rfl) (by simp) ?_ ?_ (by simp) rfl (by simp) ⟨.inl ⟨by omega, by omega⟩, trivial⟩ (by simp) ?_
 ·simp
 ·simp
 simp (disch := omega)
 and_intros <;> try first | apply hK | omega | rfl | simp <;> omega
 refine awp_ret ?_
 refine ⟨⟨.inr rfl, _, [], rfl, trivial, trivial, by simp, ?_⟩, by simp⟩
 simp

set_option maxRecDepth 100000
set_option maxHeartbeats 32000000
attribute [local simp] ints rows scal wr64 wr8
set_option linter.unusedSimpArgs false

structure ClosP (T : Nat → Nat → Nat) (n : Nat) (set : List Int) : Prop where
 rng : ∀ i (h : i < set.length), 0 ≤ set[i] ∧ set[i] < (n : Int)
 asc : ∀ i (h : i + 1 < set.length), set[i] < set[i + 1]
 mul : ∀ x ∈ set, ∀ y ∈ set, ((T x.toNat y.toNat : Nat) : Int) ∈ set
open Classical in
noncomputable def closB (T : Nat → Nat → Nat) (n : Nat) (set : List Int) : Bool := decide (ClosP T n set)
open Classical in
theorem closB_t {T : Nat → Nat → Nat} {n : Nat} {set : List Int} (h : ClosP T n set) : closB T n set = true := by unfold closB; exact decide_eq_true h
open Classical in
theorem closB_f {T : Nat → Nat → Nat} {n : Nat} {set : List Int} (h : ¬ ClosP T n set) : closB T n set = false := by unfold closB; exact decide_eq_false h
def inR (n : Nat) (l : List Int) : List T := tab n fun j => .bool (decide ((j : Int) ∈ l))
@[simp] theorem inR_len (n : Nat) (l : List Int) : (inR n l).length = n := by simp [inR]
theorem inR_get {n : Nat} (l : List Int) {j : Nat} (h : j < n) : (inR n l)[j]? = some (.bool (decide ((j : Int) ∈ l))) := by
 unfold inR; rw [tab_get _ h]
theorem inR_set {n : Nat} {l : List Int} {k : Nat} (hk : k < l.length) {x : Nat} (hx : l[k] = (x : Int)) : (inR n (l.take k)).set x (.bool true) = inR n (l.take (k + 1)) := by
 unfold inR
 rw [tab_set]
 refine tab_congr (fun j hj => ?_)
 rw [List.take_succ_eq_append_getElem hk, hx]
 by_cases e : j = x
 ·subst e; simp
 ·have : (j : Int) ≠ (x : Int) := by omega
  rw [if_neg e]
  simp [this]
theorem inR_nil (n : Nat) : inR n [] = tab n fun _ => .bool false := by
 unfold inR
 exact tab_congr (fun j _ => by simp)
theorem closed_fn (tb : List (List Int)) (n : Nat) (T : Nat → Nat → Nat) (ht : TbL tb n T) (hn : n ≤ 1000) (set : List Int) (hs : set.length ≤ 100000) :
  FnA Tryz.prog 68 [.t 0 (rows tb), .t 0 (ints set)] (.t 2 (.bool (closB T n set))) := by
 have htl := ht.len
 refine fn_intro Tryz.func68 rfl (by simp [Tryz.f68]) ?_
 rw [show Tryz.f68.ntmps = 72 from rfl, show Tryz.f68.results = #[.tmp 4] from rfl]
 refine rgS fun K hK => ?_
 simp (disch := omega)
 and_intros <;> try first | apply hK | omega | rfl | simp <;> omega
 refine rgS fun K hK => ?_
 simp (disch := omega)
 and_intros <;> try first | apply hK | omega | rfl | simp <;> omega
 refine awp_seq ?_
 refine rgS fun K hK => ?_
 simp (disch := omega)
 and_intros <;> try first | apply hK | omega | rfl | simp <;> omega
 refine awp_block ?_
 refine awp_loop (fun k : Nat => mkS [(0, .t 0 (rows tb)), (1, .t 0 (ints set)), (5, .own 0 n), (15, .t 0 (ints set)), (16, .t 2 (.int .i64 set.length)), (17, .t 2 (.int .i64 k))] [(0, .row 4 1 2 (inR n (set.take k)))] 1 72 [.any, .any]) (fun k => k ≤ set.length ∧ (∀ i (h : i < set.length), i < k → 0 ≤ set[i] ∧ set[i] < (n : Int)) ∧ ∀ i (h : i + 1 < set.length), i + 1 < k → set[i] < set[i + 1]) (fun k => set.length - k) ?_ ?_
 ·refine ⟨0, ⟨by omega, fun i h h2 => by omega, fun i h h2 => by omega⟩, ?_⟩
  rw [List.take_zero, inR_nil]
  refine wk_list [(0, some 3000000)] rfl ?_ ?_ ?_ ?_
  all_goals try simp [rep_tab, htl]
 rintro k ⟨hk, hr, ha⟩
 refine rgS fun K hK => ?_
 simp (disch := omega)
 and_intros <;> try first | apply hK | omega | rfl | simp <;> omega
 refine awp_seq ?_
 by_cases hkl : k < set.length
 ·have hfail : (¬ (0 ≤ set[k] ∧ set[k] < (n : Int)) ∨ ∃ h : 0 < k, set[k] ≤ set[k - 1]'(by omega)) → closB T n set = false := fun h => closB_f (fun hc => by
   rcases h with h | ⟨h0, h⟩
   ·exact h (hc.rng k hkl)
   ·have h2 := hc.asc (k - 1) (by omega)
    have : set[k - 1 + 1]'(by omega) = set[k] := by congr 1; omega
    rw [this] at h2
    omega)
  refine condT (by simp [hkl] <;> omega) ?_
  refine awp_skip ?_
  show awp _ _ _ _
  refine awp_seq ?_
  refine awp_block ?_
  refine rgS fun K hK => ?_
  simp (disch := omega) [hkl]
  and_intros <;> try first | apply hK | omega | rfl | simp <;> omega
  refine awp_seq ?_
  by_cases e1 : set[k] < 0
  ·have hf := hfail (.inl (by omega))
   refine rgS fun K hK => ?_
   simp (disch := omega) [e1]
   and_intros <;> try first | apply hK | omega | rfl | simp <;> omega
   refine condT (by simp [e1] <;> omega) ?_
   refine rgS fun K hK => ?_
   simp (disch := omega)
   and_intros <;> try first | apply hK | omega | rfl | simp <;> omega
   refine awp_ret ?_
   refine ⟨⟨.inr rfl, _, [], rfl, trivial, trivial, by simp [hf], ?_⟩, by simp [hf]⟩
   simp [hf]
  by_cases e2 : (n : Int) ≤ set[k]
  ·have hf := hfail (.inl (by omega))
   refine rgS fun K hK => ?_
   simp (disch := omega) [e1, e2, htl]
   and_intros <;> try first | apply hK | omega | rfl | simp <;> omega
   refine condT (by simp [e2] <;> omega) ?_
   refine rgS fun K hK => ?_
   simp (disch := omega)
   and_intros <;> try first | apply hK | omega | rfl | simp <;> omega
   refine awp_ret ?_
   refine ⟨⟨.inr rfl, _, [], rfl, trivial, trivial, by simp [hf], ?_⟩, by simp [hf]⟩
   simp [hf]
  obtain ⟨x, hx⟩ : ∃ x : Nat, set[k] = (x : Int) := ⟨set[k].toNat, by omega⟩
  have hxn : x < n := by omega
  have e1' : ¬ (x : Int) < 0 := by omega
  have e2' : ¬ (n : Int) ≤ (x : Int) := by omega
  have hset := inR_set (n := n) hkl hx
  by_cases h0 : k = 0
  ·subst h0
   have hset0 : (inR n []).set x (.bool true) = inR n (set.take 1) := hset
   refine rgS fun K hK => ?_
   simp (disch := omega) [hx, e1', e2', htl]
   and_intros <;> try first | apply hK | omega | rfl | simp <;> omega
   refine condF (by simp <;> omega) ?_
   refine awp_skip ?_
   show awp _ _ _ _
   refine rgL fun K hK => ?_
   simp (disch := omega) [hx, hxn, hset]
   and_intros <;> try first | apply hK | omega | rfl | simp <;> omega
   show awp _ _ _ _
   refine rgL fun K hK => ?_
   simp (disch := omega)
   (repeat' first | apply hK | apply And.intro) <;> try first | omega | rfl | (simp <;> omega)
   refine ⟨1, ⟨by omega, fun i h h2 => ?_, fun i h h2 => by omega⟩, by omega, ?_⟩
   ·obtain rfl : i = 0 := by omega
    omega
   refine wk_list [(0, some 0)] rfl ?_ ?_ ?_ ?_
   all_goals try simp [hset0]
  ·obtain ⟨j, rfl⟩ : ∃ j, k = j + 1 := ⟨k - 1, by omega⟩
   have hjl : j < set.length := by omega
   have h0' : (0 : Int) < ((j : Int) + 1) := by omega
   by_cases e3 : (x : Int) ≤ set[j]
   ·have hf := hfail (.inr ⟨by omega, by rw [hx]; simpa using e3⟩)
    refine rgS fun K hK => ?_
    simp (disch := omega) [hx, e1', e2', e3, h0', htl, hjl]
    and_intros <;> try first | apply hK | omega | rfl | simp <;> omega
    refine condT (by simp [e3] <;> omega) ?_
    refine rgS fun K hK => ?_
    simp (disch := omega)
    and_intros <;> try first | apply hK | omega | rfl | simp <;> omega
    refine awp_ret ?_
    refine ⟨⟨.inr rfl, _, [], rfl, trivial, trivial, by simp [hf], ?_⟩, by simp [hf]⟩
    simp [hf]
   ·refine rgS fun K hK => ?_
    simp (disch := omega) [hx, e1', e2', e3, h0', htl, hjl]
    and_intros <;> try first | apply hK | omega | rfl | simp <;> omega
    refine condF (by simp [e3] <;> omega) ?_
    refine awp_skip ?_
    show awp _ _ _ _
    refine rgL fun K hK => ?_
    simp (disch := omega) [hx, hxn, hset]
    and_intros <;> try first | apply hK | omega | rfl | simp <;> omega
    show awp _ _ _ _
    refine rgL fun K hK => ?_
    simp (disch := omega)
    (repeat' first | apply hK | apply And.intro) <;> try first | omega | rfl | (simp <;> omega)
    refine ⟨j + 1 + 1, ⟨by omega, fun i h h2 => ?_, fun i h h2 => ?_⟩, by omega, ?_⟩
    ·by_cases hi : i = j + 1
     ·subst hi; omega
     ·exact hr i h (by omega)
    ·by_cases hi : i = j
     ·subst hi; rw [hx]; omega
     ·exact ha i h (by omega)
    refine wk_list [(0, some 0)] rfl ?_ ?_ ?_ ?_
    all_goals try simp [hset]
 obtain rfl : k = set.length := by omega
 have hr2 : ∀ i (h : i < set.length), 0 ≤ set[i] ∧ set[i] < (n : Int) := fun i h => hr i h h
 have ha2 : ∀ i (h : i + 1 < set.length), set[i] < set[i + 1] := fun i h => ha i h h
 clear hr ha
 rw [List.take_length]
 refine condF (by simp <;> omega) ?_
 refine awp_exit ?_
 show awp _ _ _ _
 refine awp_seq ?_
 refine rgS fun K hK => ?_
 simp (disch := omega)
 and_intros <;> try first | apply hK | omega | rfl | simp <;> omega
 refine awp_block ?_
 refine awp_loop (fun k : Nat => mkS [(0, .t 0 (rows tb)), (1, .t 0 (ints set)), (5, .own 0 n), (47, .t 0 (ints set)), (48, .t 2 (.int .i64 set.length)), (49, .t 2 (.int .i64 k))] [(0, .row 4 1 2 (inR n set))] 1 72 [.any, .any]) (fun k => k ≤ set.length ∧ ∀ x ∈ set.take k, ∀ y ∈ set, ((T x.toNat y.toNat : Nat) : Int) ∈ set) (fun k => set.length - k) ?_ ?_
 ·refine ⟨0, ⟨by omega, fun x hx => by simp at hx⟩, ?_⟩
  refine wk_list [(0, some 0)] rfl ?_ ?_ ?_ ?_
  all_goals try simp
 rintro k ⟨hk, hm⟩
 refine rgS fun K hK => ?_
 simp (disch := omega)
 and_intros <;> try first | apply hK | omega | rfl | simp <;> omega
 refine awp_seq ?_
 by_cases hkl : k < set.length
 case neg =>
  obtain rfl : k = set.length := by omega
  rw [List.take_length] at hm
  have ht := closB_t (T := T) (n := n) (set := set) ⟨hr2, ha2, hm⟩
  refine condF (by simp <;> omega) ?_
  refine awp_exit ?_
  show awp _ _ _ _
  refine rgS fun K hK => ?_
  simp (disch := omega)
  and_intros <;> try first | apply hK | omega | rfl | simp <;> omega
  refine awp_ret ?_
  refine ⟨⟨.inr rfl, _, [], rfl, trivial, trivial, by simp [ht], ?_⟩, by simp [ht]⟩
  simp [ht]
 obtain ⟨x, hx⟩ : ∃ x : Nat, set[k] = (x : Int) := ⟨set[k].toNat, by have := hr2 k hkl; omega⟩
 have hxn : x < n := by have := hr2 k hkl; omega
 refine condT (by simp [hkl] <;> omega) ?_
 refine awp_skip ?_
 show awp _ _ _ _
 refine awp_seq ?_
 refine awp_block ?_
 refine rgS fun K hK => ?_
 simp (disch := omega) [hkl, hx]
 and_intros <;> try first | apply hK | omega | rfl | simp <;> omega
 refine rgS fun K hK => ?_
 simp (disch := omega)
 and_intros <;> try first | apply hK | omega | rfl | simp <;> omega
 refine awp_block ?_
 refine awp_loop (fun j : Nat => mkS [(0, .t 0 (rows tb)), (1, .t 0 (ints set)), (5, .own 0 n), (9, .t 2 (.int .i64 (x : Nat))), (47, .t 0 (ints set)), (48, .t 2 (.int .i64 set.length)), (49, .t 2 (.int .i64 k)), (53, .t 0 (ints set)), (54, .t 2 (.int .i64 set.length)), (55, .t 2 (.int .i64 j))] [(0, .row 4 1 2 (inR n set))] 1 72 [.any, .any]) (fun j => j ≤ set.length ∧ ∀ y ∈ set.take j, ((T x y.toNat : Nat) : Int) ∈ set) (fun j => set.length - j) ?_ ?_
 ·refine ⟨0, ⟨by omega, fun x hx => by simp at hx⟩, ?_⟩
  refine wk_list [(0, some 0)] rfl ?_ ?_ ?_ ?_
  all_goals try simp
 rintro j ⟨hj, hmj⟩
 refine rgS fun K hK => ?_
 simp (disch := omega)
 and_intros <;> try first | apply hK | omega | rfl | simp <;> omega
 refine awp_seq ?_
 by_cases hjl : j < set.length
 ·obtain ⟨y, hy⟩ : ∃ y : Nat, set[j] = (y : Int) := ⟨set[j].toNat, by have := hr2 j hjl; omega⟩
  have hyn : y < n := by have := hr2 j hjl; omega
  obtain ⟨g1, g2, g3⟩ := ht.get hxn hyn
  have hlt := ht.lt x y hxn hyn
  have hin := inR_get set hlt
  refine condT (by simp [hjl] <;> omega) ?_
  refine awp_skip ?_
  show awp _ _ _ _
  refine awp_seq ?_
  refine awp_block ?_
  refine rgS fun K hK => ?_
  simp (disch := omega) [hjl, hy]
  (repeat' first | apply hK | apply And.intro) <;> try first | omega | rfl | (simp <;> omega)
  by_cases e : ((T x y : Nat) : Int) ∈ set
  ·rw [decide_eq_true e] at hin
   refine rgS fun K hK => ?_
   simp (disch := omega) [g1, g2, g3, hin]
   and_intros <;> try first | apply hK | omega | rfl | simp <;> omega
   refine condF (by simp <;> omega) ?_
   refine awp_skip ?_
   show awp _ _ _ _
   refine rgL fun K hK => ?_
   simp (disch := omega)
   (repeat' first | apply hK | apply And.intro) <;> try first | omega | rfl | (simp <;> omega)
   refine ⟨j + 1, ⟨by omega, fun z hz => ?_⟩, by omega, ?_⟩
   ·rw [List.take_succ_eq_append_getElem hjl] at hz
    rcases List.mem_append.1 hz with hz | hz
    ·exact hmj z hz
    ·simp at hz; subst hz; rw [hy]; exact e
   refine wk_list [(0, some 0)] rfl ?_ ?_ ?_ ?_
   all_goals try simp
  ·have hf : closB T n set = false := closB_f (fun hc => e (by
    have := hc.mul set[k] (List.getElem_mem hkl) set[j] (List.getElem_mem hjl)
    rw [hx, hy] at this
    exact this))
   rw [decide_eq_false e] at hin
   refine rgS fun K hK => ?_
   simp (disch := omega) [g1, g2, g3, hin]
   and_intros <;> try first | apply hK | omega | rfl | simp <;> omega
   refine condT (by simp <;> omega) ?_
   refine rgS fun K hK => ?_
   simp (disch := omega)
   and_intros <;> try first | apply hK | omega | rfl | simp <;> omega
   refine awp_ret ?_
   refine ⟨⟨.inr rfl, _, [], rfl, trivial, trivial, by simp [hf], ?_⟩, by simp [hf]⟩
   simp [hf]
 ·obtain rfl : j = set.length := by omega
  rw [List.take_length] at hmj
  refine condF (by simp <;> omega) ?_
  refine awp_exit ?_
  show awp _ _ _ _
  refine rgL fun K hK => ?_
  simp (disch := omega)
  (repeat' first | apply hK | apply And.intro) <;> try first | omega | rfl | (simp <;> omega)
  refine ⟨k + 1, ⟨by omega, fun z hz => ?_⟩, by omega, ?_⟩
  ·rw [List.take_succ_eq_append_getElem hkl] at hz
   rcases List.mem_append.1 hz with hz | hz
   ·exact hm z hz
   ·simp at hz; subst hz; rw [hx]; exact hmj
  refine wk_list [(0, some 0)] rfl ?_ ?_ ?_ ?_
  all_goals try simp
def empB (R : List (List Int)) : Bool := R.any fun l => decide (l.length = 0)
def empI : List (List Int) → Nat → Int
 | [], k => -1
 | l :: r, k => if l.length = 0 then (k : Int) else empI r (k + 1)
theorem empI_B : ∀ (R : List (List Int)) (k : Nat), decide (0 ≤ empI R k) = empB R
 | [], k => rfl
 | l :: r, k => by
  unfold empI
  show _ = (decide (l.length = 0) || empB r)
  by_cases h : l.length = 0
  ·rw [if_pos h, decide_eq_true h, Bool.true_or]
   exact decide_eq_true (by omega)
  ·rw [if_neg h, empI_B r, decide_eq_false h, Bool.false_or]
theorem empty1_fn (l : List Int) : FnA Tryz.prog 72 [.t 0 (ints l)] (.t 2 (.bool (decide (l.length = 0)))) := by
 refine fn_intro Tryz.func72 rfl (by simp [Tryz.f72]) ?_
 rw [show Tryz.f72.ntmps = 6 from rfl, show Tryz.f72.results = #[.tmp 2] from rfl]
 refine rgS fun K hK => ?_
 simp (disch := omega)
 and_intros <;> try first | apply hK | omega | rfl | simp <;> omega
 refine rgS fun K hK => ?_
 simp (disch := omega)
 and_intros <;> try first | apply hK | omega | rfl | simp <;> omega
 refine awp_ret ?_
 refine ⟨⟨.inr rfl, _, [], rfl, trivial, trivial, by simp, ?_⟩, by simp⟩
 simp
 all_goals (by_cases h : l = [] <;> simp [h])
theorem empIdx_fn (R : List (List Int)) (hR : R.length ≤ 1000) : FnA Tryz.prog 103 [.t 0 (rows R), .fn 72 []] (.t 2 (.int .i64 (empI R 0))) := by
 refine fn_intro Tryz.func103 rfl (by simp [Tryz.f103]) ?_
 rw [show Tryz.f103.ntmps = 19 from rfl, show Tryz.f103.results = #[.tmp 4] from rfl]
 refine rgS fun K hK => ?_
 simp (disch := omega)
 and_intros <;> try first | apply hK | omega | rfl | simp <;> omega
 refine awp_seq ?_
 refine rgS fun K hK => ?_
 simp (disch := omega)
 and_intros <;> try first | apply hK | omega | rfl | simp <;> omega
 refine awp_block ?_
 refine awp_loop (fun k : Nat => mkS [(0, .t 0 (rows R)), (1, .fn 72 []), (7, .t 2 (.int .i64 R.length)), (8, .t 2 (.int .i64 (k : Nat)))] [] 0 19 [.any, .any]) (fun k => k ≤ R.length ∧ empI R 0 = empI (R.drop k) k) (fun k => R.length - k) ?_ ?_
 ·refine ⟨0, ⟨by omega, rfl⟩, ?_⟩
  refine wk_list [] rfl ?_ ?_ ?_ ?_
  all_goals try simp
 rintro k ⟨hk, hid⟩
 refine rgS fun K hK => ?_
 simp (disch := omega)
 and_intros <;> try first | apply hK | omega | rfl | simp <;> omega
 refine awp_seq ?_
 by_cases hkn : k < R.length
 ·have h1 := empty1_fn R[k]
  rw [List.drop_eq_getElem_cons hkn, empI] at hid
  refine condT (by simp [hkn] <;> omega) ?_
  refine awp_skip ?_
  show awp _ _ _ _
  refine awp_seq ?_
  refine awp_block ?_
  refine rgS fun K hK => ?_
  simp (disch := omega)
  and_intros <;> try first | apply hK | omega | rfl | simp <;> omega
  refine rgS fun K hK => ?_
  simp (disch := omega) [hkn]
  (repeat' apply And.intro)
  all_goals (try omega)
  refine call_rule (caps := []) (h1) [] [] 2 rfl rfl rfl (by simp) (by first | assumption | kernel_rfl) (by simp) ?_ ?_ (by simp) rfl (by simp) trivial (by simp [hkn]) ?_
  ·simp [hkn]
  ·simp [hkn]
  simp (disch := omega)
  (repeat' first | apply hK | apply And.intro) <;> try first | omega | rfl | (simp <;> omega)
  by_cases e : R[k].length = 0
  ·rw [if_pos e] at hid
   have e' : R[k] = [] := List.length_eq_zero_iff.1 e
   refine condT (by simp [e'] <;> omega) ?_
   refine rgS fun K hK => ?_
   simp (disch := omega)
   and_intros <;> try first | apply hK | omega | rfl | simp <;> omega
   refine awp_ret ?_
   refine ⟨⟨.inr rfl, _, [], rfl, trivial, trivial, by simp [hid], ?_⟩, by simp [hid]⟩
   simp [hid]
  ·rw [if_neg e] at hid
   have e' : ¬ R[k] = [] := fun h => e (by rw [h]; rfl)
   refine condF (by simp [e'] <;> omega) ?_
   refine awp_skip ?_
   show awp _ _ _ _
   refine rgL fun K hK => ?_
   simp (disch := omega)
   (repeat' first | apply hK | apply And.intro) <;> try first | omega | rfl | (simp <;> omega)
   refine ⟨k + 1, ⟨by omega, hid⟩, by omega, ?_⟩
   refine wk_list [] rfl ?_ ?_ ?_ ?_
   all_goals try simp
 ·obtain rfl : k = R.length := by omega
  rw [List.drop_length, empI] at hid
  refine condF (by simp <;> omega) ?_
  refine awp_exit ?_
  show awp _ _ _ _
  refine rgS fun K hK => ?_
  simp (disch := omega)
  and_intros <;> try first | apply hK | omega | rfl | simp <;> omega
  refine awp_ret ?_
  refine ⟨⟨.inr rfl, _, [], rfl, trivial, trivial, by simp [hid], ?_⟩, by simp [hid]⟩
  simp [hid]
theorem empCon_fn (R : List (List Int)) (hR : R.length ≤ 1000) : FnA Tryz.prog 71 [.t 0 (rows R), .fn 72 []] (.t 2 (.bool (empB R))) := by
 have h1 := empIdx_fn R hR
 have h2 := empI_B R 0
 refine fn_intro Tryz.func71 rfl (by simp [Tryz.f71]) ?_
 rw [show Tryz.f71.ntmps = 9 from rfl, show Tryz.f71.results = #[.tmp 4] from rfl]
 refine rgS fun K hK => ?_
 simp (disch := omega)
 and_intros <;> try first | apply hK | omega | rfl | simp <;> omega
 refine rgS fun K hK => ?_
 simp (disch := omega)
 (repeat' apply And.intro)
 all_goals (try omega)
 refine callO (h1) rfl rfl rfl rfl (by kernel_rfl) (by simp) ?_ ?_
 ·simp
 simp (disch := omega) [h2]
 and_intros <;> try first | apply hK | omega | rfl | simp <;> omega
 refine awp_ret ?_
 refine ⟨⟨.inr rfl, _, [], rfl, trivial, trivial, by simp, ?_⟩, by simp⟩
 simp
end Go.Proofs.YtghnmmfkckneaaaGreat.M

namespace Go.Proofs.YtghnmmfkckneaaaGreat.M
open Go.RowKit
set_option linter.unusedVariables false
set_option maxRecDepth 100000
set_option maxHeartbeats 32000000
attribute [local simp] ints rows scal wr64 wr8
set_option linter.unusedSimpArgs false

def upB (f : Nat → Bool) (k : Nat) (v : Bool) : Nat → Bool := fun i => if i = k then v else f i
mutual
def Tm.occ (i : Nat) : Tm → Bool
 | .mk o n l => (decide (o = 2) && decide (n.toNat = i)) || occL i l
def occL (i : Nat) : List Tm → Bool
 | [] => false
 | a :: r => a.occ i || occL i r
end
mutual
def Tm.els (i : Nat) : Int × Int → Tm → Bool
 | a, .mk o n l => (decide (o = 2) && decide (n.toNat = i) && !(decide (a.1 = 4) && decide (a.2 = 0))) || elsL i (o, n) l
def elsL (i : Nat) : Int × Int → List Tm → Bool
 | a, [] => false
 | a, t :: r => t.els i a || elsL i a r
end
abbrev BB := (Nat → Bool) × (Nat → Bool)
def raS (s : BB) (h a : Int × Int) : BB := if h.1 = 2 then (upB s.1 h.2.toNat true, upB s.2 h.2.toNat (s.2 h.2.toNat || !(decide (a.1 = 4) && decide (a.2 = 0)))) else s
mutual
theorem vis_ra : ∀ (t : Tm) (s : BB) (a : Int × Int), t.vis raS s a = (fun i => s.1 i || t.occ i, fun i => s.2 i || t.els i a)
 | .mk o n l, s, a => by
  rw [Tm.vis, visL_ra l]
  have h1 : raS s (o, n) a = (fun i => s.1 i || (decide (o = 2) && decide (n.toNat = i)), fun i => s.2 i || (decide (o = 2) && decide (n.toNat = i) && !(decide (a.1 = 4) && decide (a.2 = 0)))) := by
   unfold raS upB
   by_cases h : o = 2
   ·rw [if_pos h]
    congr 1
    ·funext i
     by_cases hi : i = n.toNat
     ·simp [hi, h]
     ·have : ¬ n.toNat = i := fun e => hi e.symm
      simp [hi, this]
    ·funext i
     by_cases hi : i = n.toNat
     ·simp [hi, h]
     ·have : ¬ n.toNat = i := fun e => hi e.symm
      simp [hi, this]
   ·rw [if_neg h]
    simp [h]
  rw [h1]
  congr 1
  ·funext i; rw [Tm.occ, Bool.or_assoc]
  ·funext i; rw [Tm.els, Bool.or_assoc]
theorem visL_ra : ∀ (l : List Tm) (s : BB) (a : Int × Int), visL raS s a l = (fun i => s.1 i || occL i l, fun i => s.2 i || elsL i a l)
 | [], s, a => by
  rw [visL]
  simp [occL, elsL]
 | t :: l, s, a => by
  rw [visL, vis_ra t s a, visL_ra l]
  congr 1
  ·funext i; rw [occL, Bool.or_assoc]
  ·funext i; rw [elsL, Bool.or_assoc]
end
def baL (f : Nat → Bool) : List T := tab 6 fun i => .bool (f i)
@[simp] theorem baL_len (f : Nat → Bool) : (baL f).length = 6 := by simp [baL]
theorem baL_get (f : Nat → Bool) {j : Nat} (h : j < 6) : (scC (baL f))[j]? = some (.t 2 (.bool (f j))) := by
 unfold scC baL
 rw [List.getElem?_map, tab_get _ h]
 rfl
theorem baL_set (f : Nat → Bool) (j : Nat) (v : Bool) : (scC (baL f)).set j (.t 2 (.bool v)) = scC (baL (upB f j v)) := by
 unfold scC baL
 rw [tab_map, tab_map, tab_set]
 refine tab_congr (fun i hi => ?_)
 unfold upB
 by_cases h : i = j
 ·rw [if_pos h, if_pos h]
 ·rw [if_neg h, if_neg h]
theorem baL_sc (f : Nat → Bool) : ∀ x ∈ baL f, scal x = true := fun x hx => by
 unfold baL tab at hx
 obtain ⟨i, -, rfl⟩ := List.mem_map.1 hx
 rfl
theorem ranges1_fn (s : BB) (t : Tm) (a : Int × Int) (ho : t.ok = true) : FnS Tryz.prog 102 [tmV 0 t, abV a, .ptr 0 0 6, .ptr 1 0 6] [bxO 153 (baL s.1), bxO 153 (baL s.2)] (.tup []) [bxO 153 (baL (raS s (t.op, t.n) a).1), bxO 153 (baL (raS s (t.op, t.n) a).2)] := by
 have hwf : t.wf = true := by rw [ok_eq, Bool.and_eq_true] at ho; exact ho.1
 unfold Tm.wf at hwf
 rw [decide_eq_true_iff] at hwf
 refine fn_intro Tryz.func102 rfl (by simp [Tryz.f102]) ?_
 rw [show Tryz.f102.ntmps = 29 from rfl, show Tryz.f102.results = #[] from rfl]
 refine rgS fun K hK => ?_
 simp (disch := omega) [tmV, abV, bxO]
 and_intros <;> try first | apply hK | omega | rfl | simp <;> omega
 refine rgS fun K hK => ?_
 simp (disch := omega) [tsTerm, bxO]
 (repeat' first | apply hK | apply And.intro) <;> try first | omega | rfl | (simp <;> omega)
 by_cases e : t.op = 2
 ·obtain ⟨j, hj⟩ : ∃ j : Nat, t.n = (j : Int) := ⟨t.n.toNat, by omega⟩
  have hj6 : j < 6 := by omega
  have hg2 := baL_get s.2 hj6
  have hr : raS s (t.op, t.n) a = (upB s.1 j true, upB s.2 j (s.2 j || !(decide (a.1 = 4) && decide (a.2 = 0)))) := by unfold raS; rw [if_pos e, hj, Int.toNat_natCast]
  rw [hr]
  refine condT (by simp [e] <;> omega) ?_
  refine rgS fun K hK => ?_
  simp (disch := omega) [bxO, hj, baL_set]
  (repeat' first | apply hK | apply And.intro) <;> try first | omega | rfl | (simp <;> omega)
  cases hb : s.2 j with
  | true =>
   rw [hb] at hg2
   refine awp_RD (by kernel_rfl) (fun K hK => ?_)
   simp (disch := omega) [bxO, hj, baL_set, hg2]
   (repeat' first | apply hK | apply And.intro) <;> try first | (show chkD _ _ = true; kernel_rfl) | omega | rfl | (simp <;> omega)
   refine ⟨_, [(0, some 0), (1, some 1)], (by first | rfl | (simp [tmV, abV, bxO, baL_set, scC_wk]; rfl)), ?_, ?_, ?_, ?_⟩
   all_goals try simp [tmV, abV, bxO, baL_set, scC_wk]
  | false =>
   rw [hb] at hg2
   by_cases e1 : a.1 = 4
   ·have e1b : (a.1 != 4) = false := by simpa using e1
    by_cases e2 : a.2 = 0
    ·have e2b : (a.2 != 0) = false := by simpa using e2
     refine awp_RD (by kernel_rfl) (fun K hK => ?_)
     simp (disch := omega) [bxO, hj, baL_set, hg2, e1, e2]
     (repeat' first | apply hK | apply And.intro) <;> try first | (show chkD _ _ = true; kernel_rfl) | omega | rfl | (simp <;> omega)
     refine ⟨_, [(0, some 0), (1, some 1)], (by first | rfl | (simp [tmV, abV, bxO, baL_set, scC_wk, e1, e2]; rfl)), ?_, ?_, ?_, ?_⟩
     all_goals try simp [tmV, abV, bxO, baL_set, scC_wk, e1, e2]
    ·have e2b : (a.2 != 0) = true := by simpa using e2
     refine awp_RD (by kernel_rfl) (fun K hK => ?_)
     simp (disch := omega) [bxO, hj, baL_set, hg2, e1, e2, e2b]
     (repeat' first | apply hK | apply And.intro) <;> try first | (show chkD _ _ = true; kernel_rfl) | omega | rfl | (simp <;> omega)
     refine ⟨_, [(0, some 0), (1, some 1)], (by first | rfl | (simp [tmV, abV, bxO, baL_set, scC_wk, e1, e2]; rfl)), ?_, ?_, ?_, ?_⟩
     all_goals try simp [tmV, abV, bxO, baL_set, scC_wk, e1, e2]
   ·have e1b : (a.1 != 4) = true := by simpa using e1
    refine awp_RD (by kernel_rfl) (fun K hK => ?_)
    simp (disch := omega) [bxO, hj, baL_set, hg2, e1, e1b]
    (repeat' first | apply hK | apply And.intro) <;> try first | (show chkD _ _ = true; kernel_rfl) | omega | rfl | (simp <;> omega)
    refine ⟨_, [(0, some 0), (1, some 1)], (by first | rfl | (simp [tmV, abV, bxO, baL_set, scC_wk, e1]; rfl)), ?_, ?_, ?_, ?_⟩
    all_goals try simp [tmV, abV, bxO, baL_set, scC_wk, e1]
 ·have hr : raS s (t.op, t.n) a = s := by unfold raS; rw [if_neg e]
  rw [hr]
  refine condF (by simp [e] <;> omega) ?_
  refine awp_skip ?_
  refine ⟨⟨.inl rfl, _, [(0, some 0), (1, some 1)], rfl, ?_, ?_, ?_, ?_⟩, ?_⟩
  all_goals simp [tmV, abV, bxO, scC_wk]
def rgV (R : Nat → List Int) (nv i : Nat) (c : AV) : List AV := tab nv fun j => if j < i then .t 2 (ints (R j)) else if j = i then c else .t 2 (.sl 0 [])
section
variable {R : Nat → List Int} {nv i : Nat} {c c' : AV} {H : Nat → Option AObj} {m : Nat → Option Nat} {un : Nat → Prop} {nx : Nat}
@[simp] theorem rgV_len : (rgV R nv i c).length = nv := by simp [rgV]
theorem rgV_get (h : i < nv) : (rgV R nv i c)[i]? = some c := by
 unfold rgV
 rw [tab_get _ h, if_neg (by omega), if_pos rfl]
theorem rgV_set : (rgV R nv i c).set i c' = rgV R nv i c' := by
 unfold rgV
 rw [tab_set]
 refine tab_congr (fun j hj => ?_)
 by_cases h : j = i
 ·rw [if_pos h, if_neg (by omega), if_pos h]
 ·rw [if_neg h]
  by_cases h2 : j < i
  ·rw [if_pos h2, if_pos h2]
  ·rw [if_neg h2, if_neg h, if_neg h2, if_neg h]
theorem rgV_at {j : Nat} {a : AV} (h : (rgV R nv i c)[j]? = some a) : j < nv ∧ a = if j < i then .t 2 (ints (R j)) else if j = i then c else .t 2 (.sl 0 []) := by
 have hl : j < nv := by have := (List.getElem?_eq_some_iff.1 h).1; simpa using this
 unfold rgV at h
 rw [tab_get _ hl] at h
 injection h with h
 exact ⟨hl, h.symm⟩
theorem rgV_wk (hv : wkP H m un nx c c') : wkPs H m un nx (rgV R nv i c) (rgV R nv i c') = True := by
 refine eq_true (wkPs_of (by simp) (fun j a b ha hb => ?_))
 obtain ⟨h1, rfl⟩ := rgV_at ha
 obtain ⟨-, rfl⟩ := rgV_at hb
 by_cases h2 : j < i
 ·rw [if_pos h2, if_pos h2]; exact ⟨rfl, Nat.le_refl _⟩
 ·rw [if_neg h2, if_neg h2]
  by_cases h3 : j = i
  ·rw [if_pos h3, if_pos h3]; exact hv
  ·rw [if_neg h3, if_neg h3]; exact ⟨rfl, Nat.le_refl _⟩
theorem rgV_next (hv : wkP H m un nx c (.t 2 (ints (R i)))) : wkPs H m un nx (rgV R nv i c) (rgV R nv (i + 1) (.t 2 (.sl 0 []))) := by
 refine wkPs_of (by simp) (fun j a b ha hb => ?_)
 obtain ⟨h1, rfl⟩ := rgV_at ha
 obtain ⟨-, rfl⟩ := rgV_at hb
 by_cases h2 : j < i
 ·rw [if_pos h2, if_pos (by omega)]; exact ⟨rfl, Nat.le_refl _⟩
 ·rw [if_neg h2]
  by_cases h3 : j = i
  ·rw [if_pos h3, if_pos (by omega), h3]; exact hv
  ·rw [if_neg h3, if_neg (by omega)]
   by_cases h4 : j = i + 1
   ·rw [if_pos h4]; exact ⟨rfl, Nat.le_refl _⟩
   ·rw [if_neg h4]; exact ⟨rfl, Nat.le_refl _⟩
theorem rgV_init : wkPs H m un nx (List.replicate nv (.t 2 (.sl 0 []))) (rgV R nv 0 (.t 2 (.sl 0 []))) = True := by
 refine eq_true (wkPs_of (by simp) (fun j a b ha hb => ?_))
 obtain ⟨h1, rfl⟩ := rgV_at hb
 rw [List.getElem?_replicate, if_pos h1] at ha
 injection ha with ha
 subst ha
 rw [if_neg (by omega)]
 by_cases h3 : j = 0
 ·rw [if_pos h3]; exact ⟨rfl, Nat.le_refl _⟩
 ·rw [if_neg h3]; exact ⟨rfl, Nat.le_refl _⟩
theorem rgV_T {c : AV} : wkT H un 2 (rgV R nv nv c) ((tab nv R).map ints) = True := by
 refine eq_true ⟨by simp, fun j a t ha ht => ?_⟩
 obtain ⟨h1, rfl⟩ := rgV_at ha
 rw [List.getElem?_map, tab_get _ h1] at ht
 injection ht with ht
 subst ht
 rw [if_pos h1]
 exact ⟨rfl, Nat.le_refl _⟩
end
def rngF (T : Nat → Nat → Nat) (set : List Int) (a b : Tm) (i : Nat) : List Int := set.filter fun x => !(a.occ i || b.occ i) || (a.els i (0, 0) || b.els i (0, 0)) || decide (T x.toNat x.toNat = x.toNat)
def rngL (T : Nat → Nat → Nat) (set : List Int) (a b : Tm) : List (List Int) := tab (max a.gr b.gr) (rngF T set a b)
theorem tsFlags (h : 153 < Tryz.prog.types.size) : (Tryz.prog.types[153]'h).size = 6 := by rfl
theorem baL_init : scC (baL fun _ => false) = [.t 2 (.bool false), .t 2 (.bool false), .t 2 (.bool false), .t 2 (.bool false), .t 2 (.bool false), .t 2 (.bool false)] := rfl
theorem gr_6 : ∀ (t : Tm), t.ok = true → t.gr ≤ 6
 | .mk o n l, hok => by
  obtain ⟨hwf, hl⟩ := ok_wf hok
  have := grL_6 l hl
  rw [Tm.gr]
  split <;> omega
where grL_6 : ∀ (l : List Tm), okL' l = true → grL l ≤ 6
 | [], _ => by rw [grL]; omega
 | a :: l, hok => by
  have hok2 : a.ok = true ∧ okL' l = true := by simpa [okL'] using hok
  have := gr_6 a hok2.1
  have := grL_6 l hok2.2
  rw [grL]; omega
theorem ranges_fn (tb : List (List Int)) (n : Nat) (T : Nat → Nat → Nat) (ht : TbL tb n T) (hn : n ≤ 1000) (set : List Int) (hs : set.length ≤ 100000) (hr : ∀ i (h : i < set.length), 0 ≤ set[i] ∧ set[i] < (n : Int)) (a b : Tm) (hv : a.val = true ∧ b.val = true) :
  FnA Tryz.prog 70 [.t 0 (rows tb), .t 0 (ints set), idV 0 a b] (.t 2 (rows (rngL T set a b))) := by
 obtain ⟨hao, has⟩ := val_ok hv.1
 obtain ⟨hbo, hbs⟩ := val_ok hv.2
 have hga := gr_6 a hao
 have hgb := gr_6 b hbo
 have hV1 := visit2_fn (S := BB) (L0 := fun s => baL s.1) (L1 := fun s => baL s.2) (ty0 := 153) (ty1 := 153) (c0 := 6) (c1 := 6) (F := 102) (by kernel_rfl) raS (fun s => baL_sc s.1) (fun s => baL_len s.1) (fun s => baL_sc s.2) (fun s => baL_len s.2) ranges1_fn a (fun _ => false, fun _ => false) (0, 0) hao (by omega)
 rw [vis_ra a] at hV1
 have hV2 := visit2_fn (S := BB) (L0 := fun s => baL s.1) (L1 := fun s => baL s.2) (ty0 := 153) (ty1 := 153) (c0 := 6) (c1 := 6) (F := 102) (by kernel_rfl) raS (fun s => baL_sc s.1) (fun s => baL_len s.1) (fun s => baL_sc s.2) (fun s => baL_len s.2) ranges1_fn b (fun i => false || a.occ i, fun i => false || a.els i (0, 0)) (0, 0) hbo (by omega)
 rw [vis_ra b] at hV2
 simp only [Bool.false_or] at hV1 hV2
 have hVs := vars_fn [a, b] (by simp) (pair_ok hv)
 obtain ⟨nv, hnv⟩ : ∃ nv, nv = max a.gr b.gr := ⟨_, rfl⟩
 rw [show grL [a, b] = nv by rw [grL, grL, grL]; omega] at hVs
 have hnv6 : nv ≤ 6 := by omega
 have hi1 : ∀ (H : Nat → Option AObj) (pi : List Nat) (q : Nat) (f : Nat → Bool), inPs H pi q (scC (baL f)) (scC (baL f)) = True := fun H pi q f => scC_in (baL_sc f)
 have ho1 : ∀ (po : List Nat) (q : Nat) (f : Nat → Bool), outVs po q (scC (baL f)) = scC (baL f) := fun po q f => scC_out (baL_sc f)
 refine fn_intro Tryz.func70 rfl (by simp [Tryz.f70]) ?_
 rw [show Tryz.f70.ntmps = 76 from rfl, show Tryz.f70.results = #[.tmp 6] from rfl]
 unfold rngL
 rw [← hnv]
 refine rgS fun K hK => ?_
 simp (disch := omega) [idV]
 and_intros <;> try first | apply hK | omega | rfl | simp <;> omega
 refine rgS fun K hK => ?_
 simp (disch := omega) [tsFlags]
 and_intros <;> try first | apply hK | omega | rfl | simp <;> omega
 refine rgS fun K hK => ?_
 simp (disch := omega)
 and_intros <;> try first | apply hK | omega | rfl | simp <;> omega
 refine awp_weak (σ' := mkS [(0, .t 0 (rows tb)), (1, .t 0 (ints set)), (5, .ptr 2 0 6), (7, .ptr 0 0 6), (8, .ptr 1 0 6), (9, .fn 102 [.ptr 0 0 6, .ptr 1 0 6])] [(0, bxO 153 (baL fun _ => false)), (1, bxO 153 (baL fun _ => false)), (2, .box 31 [.t 2 (.int .i64 a.op), .t 2 (.int .i64 a.n), .t 0 (.sl 3 (cellsL a.args)), .t 2 (.int .i64 b.op), .t 2 (.int .i64 b.n), .t 0 (.sl 3 (cellsL b.args))])] 3 76 [.any, .any, .any]) ?_ ?_
 ·refine wk_list [(0, some 2000000), (1, some 3000000), (2, some 0)] rfl ?_ ?_ ?_ ?_
  all_goals try simp [bxO, baL_init, idV, tsFlags]
 refine rgS fun K hK => ?_
 simp (disch := omega) [tsTerm]
 (repeat' apply And.intro)
 all_goals (try omega)
 refine call_ruleK (caps := []) (hV1) [0, 1] [0, 1] 1 rfl rfl rfl rfl (by kernel_rfl) (by simp) ?_ ?_ (by simp) rfl (by simp) ⟨.inr (.inr ⟨rfl, by simp, by simp⟩), .inr (.inr ⟨rfl, by simp, by simp⟩), trivial⟩ (by simp [tmV, abV, bxO, hi1, ho1]) ?_
 ·simp [tmV, abV, bxO, hi1, ho1]
 ·simp [tmV, abV, bxO, hi1, ho1]
 simp (disch := omega) [bxO, ho1]
 and_intros <;> try first | apply hK | omega | rfl | simp <;> omega
 refine rgS fun K hK => ?_
 simp (disch := omega) [tsTerm]
 (repeat' apply And.intro)
 all_goals (try omega)
 refine call_ruleK (caps := []) (hV2) [0, 1] [0, 1] 1 rfl rfl rfl rfl (by kernel_rfl) (by simp) ?_ ?_ (by simp) rfl (by simp) ⟨.inr (.inr ⟨rfl, by simp, by simp⟩), .inr (.inr ⟨rfl, by simp, by simp⟩), trivial⟩ (by simp [tmV, abV, bxO, hi1, ho1]) ?_
 ·simp [tmV, abV, bxO, hi1, ho1]
 ·simp [tmV, abV, bxO, hi1, ho1]
 simp (disch := omega) [bxO, ho1]
 and_intros <;> try first | apply hK | omega | rfl | simp <;> omega
 refine rgS fun K hK => ?_
 simp (disch := omega) [tsTerm, range_6]
 (repeat' apply And.intro)
 all_goals (try omega)
 refine callO (hVs) rfl rfl rfl rfl (by kernel_rfl) (by simp) ?_ ?_
 ·simp [cells2]
 simp (disch := omega) [bxO]
 and_intros <;> try first | apply hK | omega | rfl | simp <;> omega
 refine awp_seq ?_
 refine rgS fun K hK => ?_
 simp (disch := omega) [bxO]
 and_intros <;> try first | apply hK | omega | rfl | simp <;> omega
 refine awp_block ?_
 refine awp_loop (fun i : Nat => mkS [(0, .t 0 (rows tb)), (1, .t 0 (ints set)), (7, .ptr 0 0 6), (8, .ptr 1 0 6), (10, .own 2 nv), (33, .t 2 (.int .i64 nv)), (34, .t 2 (.int .i64 i))] [(0, bxO 153 (baL fun i => a.occ i || b.occ i)), (1, bxO 153 (baL fun i => a.els i (0, 0) || b.els i (0, 0))), (2, .vec 22 (rgV (rngF T set a b) nv i (.t 2 (.sl 0 []))))] 3 76 [.any, .any, .any]) (fun i => i ≤ nv) (fun i => nv - i) ?_ ?_
 ·refine ⟨0, by omega, ?_⟩
  refine wk_list [(0, some 0), (1, some 1), (2, some 16000003)] rfl ?_ ?_ ?_ ?_
  all_goals try simp [bxO, scC_wk, rgV_init]
 intro i hi
 refine rgS fun K hK => ?_
 simp (disch := omega)
 and_intros <;> try first | apply hK | omega | rfl | simp <;> omega
 refine awp_seq ?_
 by_cases hiv : i < nv
 case neg =>
  obtain rfl : i = nv := by omega
  refine condF (by simp <;> omega) ?_
  refine awp_exit ?_
  show awp _ _ _ _
  refine rgS fun K hK => ?_
  simp (disch := omega)
  and_intros <;> try first | apply hK | omega | rfl | simp <;> omega
  refine awp_ret ?_
  refine ⟨⟨.inr rfl, _, [], (by first | rfl | (simp [rgV_T, idV]; rfl)), ?_, ?_, ?_, ?_⟩, ?_⟩
  all_goals try simp [rgV_T, idV]
 refine condT (by simp [hiv] <;> omega) ?_
 refine awp_skip ?_
 show awp _ _ _ _
 refine awp_seq ?_
 refine awp_block ?_
 refine rgS fun K hK => ?_
 simp (disch := omega)
 and_intros <;> try first | apply hK | omega | rfl | simp <;> omega
 refine rgS fun K hK => ?_
 simp (disch := omega)
 and_intros <;> try first | apply hK | omega | rfl | simp <;> omega
 refine awp_block ?_
 obtain ⟨P, hP⟩ : ∃ P : Int → Bool, P = fun x => !(a.occ i || b.occ i) || (a.els i (0, 0) || b.els i (0, 0)) || decide (T x.toNat x.toNat = x.toNat) := ⟨_, rfl⟩
 have hRi : rngF T set a b i = set.filter P := by unfold rngF; rw [hP]
 refine awp_loop (fun k : Nat => mkS [(0, .t 0 (rows tb)), (1, .t 0 (ints set)), (7, .ptr 0 0 6), (8, .ptr 1 0 6), (10, .own 2 nv), (11, .t 2 (.int .i64 i)), (33, .t 2 (.int .i64 nv)), (34, .t 2 (.int .i64 i)), (37, .t 0 (ints set)), (38, .t 2 (.int .i64 set.length)), (39, .t 2 (.int .i64 k))] [(0, bxO 153 (baL fun i => a.occ i || b.occ i)), (1, bxO 153 (baL fun i => a.els i (0, 0) || b.els i (0, 0))), (2, .vec 22 (rgV (rngF T set a b) nv i (.own 3 ((set.take k).filter P).length))), (3, .row 3 1 2 (((set.take k).filter P).map (.int .i64)))] 4 76 [.any, .any, .any]) (fun k => k ≤ set.length) (fun k => set.length - k) ?_ ?_
 ·refine ⟨0, by omega, ?_⟩
  refine wk_list [(0, some 0), (1, some 1), (2, some 2), (3, none)] rfl ?_ ?_ ?_ ?_
  all_goals try simp [bxO, scC_wk]
  rw [rgV_wk (by simp [mpOf])]
  trivial
 intro k hk
 have hfl : ((set.take k).filter P).length ≤ k := by
  have := List.length_filter_le P (set.take k)
  rw [List.length_take] at this
  omega
 refine rgS fun K hK => ?_
 simp (disch := omega)
 and_intros <;> try first | apply hK | omega | rfl | simp <;> omega
 refine awp_seq ?_
 by_cases hkl : k < set.length
 case neg =>
  obtain rfl : k = set.length := by omega
  rw [List.take_length]
  refine condF (by simp <;> omega) ?_
  refine awp_exit ?_
  show awp _ _ _ _
  refine rgL fun K hK => ?_
  simp (disch := omega)
  (repeat' first | apply hK | apply And.intro) <;> try first | omega | rfl | (simp <;> omega)
  refine ⟨i + 1, by omega, by omega, ?_⟩
  refine wk_list [(0, some 0), (1, some 1), (2, some 2)] rfl ?_ ?_ ?_ ?_
  all_goals try simp [bxO, scC_wk]
  refine rgV_next ?_
  rw [hRi]
  simp
 obtain ⟨x, hx⟩ : ∃ x : Nat, set[k] = (x : Int) := ⟨set[k].toNat, by have := hr k hkl; omega⟩
 have hxn : x < n := by have := hr k hkl; omega
 obtain ⟨g1, g2, g3⟩ := ht.get hxn hxn
 have hgo := baL_get (fun i => a.occ i || b.occ i) (show i < 6 by omega)
 have hge := baL_get (fun i => a.els i (0, 0) || b.els i (0, 0)) (show i < 6 by omega)
 have hPx : P (x : Int) = (!(a.occ i || b.occ i) || (a.els i (0, 0) || b.els i (0, 0)) || decide (T x x = x)) := by rw [hP]; simp
 have htk : (set.take (k + 1)).filter P = (set.take k).filter P ++ (if P (x : Int) = true then [(x : Int)] else []) := by
  rw [List.take_succ_eq_append_getElem hkl, List.filter_append, hx]
  by_cases h : P (x : Int) = true
  ·simp [h]
  ·simp [h]
 have hgv := rgV_get (R := rngF T set a b) (c := .own 3 ((set.take k).filter P).length) hiv
 generalize hoc : (a.occ i || b.occ i) = oc at hgo hPx
 generalize hel : (a.els i (0, 0) || b.els i (0, 0)) = el at hge hPx
 refine condT (by simp [hkl] <;> omega) ?_
 refine awp_skip ?_
 show awp _ _ _ _
 refine awp_seq ?_
 refine awp_block ?_
 refine rgS fun K hK => ?_
 simp (disch := omega) [hkl, hx]
 and_intros <;> try first | apply hK | omega | rfl | simp <;> omega
 refine awp_seq (awp_mono (Q := fun e σ => e = Exit.normal ∧ Wk σ (mkS [(0, .t 0 (rows tb)), (1, .t 0 (ints set)), (7, .ptr 0 0 6), (8, .ptr 1 0 6), (10, .own 2 nv), (11, .t 2 (.int .i64 i)), (13, .t 2 (.int .i64 (x : Nat))), (33, .t 2 (.int .i64 nv)), (34, .t 2 (.int .i64 i)), (37, .t 0 (ints set)), (38, .t 2 (.int .i64 set.length)), (39, .t 2 (.int .i64 k)), (62, .t 2 (.bool (P (x : Int))))] [(0, bxO 153 (baL fun i => a.occ i || b.occ i)), (1, bxO 153 (baL fun i => a.els i (0, 0) || b.els i (0, 0))), (2, .vec 22 (rgV (rngF T set a b) nv i (.own 3 ((set.take k).filter P).length))), (3, .row 3 1 2 (((set.take k).filter P).map (.int .i64)))] 4 76 [.any, .any, .any])) ?_ ?_)
 ·rw [hPx]
  cases oc with
  | false =>
   refine rgL fun K hK => ?_
   simp (disch := omega) [bxO, hgo]
   (repeat' first | apply hK | apply And.intro) <;> try first | omega | rfl | (simp <;> omega)
   refine wk_list [(0, some 0), (1, some 1), (2, some 2), (3, some 3)] rfl ?_ ?_ ?_ ?_
   all_goals try simp [bxO, scC_wk]
   rw [rgV_wk (by simp [mpOf])]
   trivial
  | true => cases el with
   | true =>
    refine rgL fun K hK => ?_
    simp (disch := omega) [bxO, hgo, hge]
    (repeat' first | apply hK | apply And.intro) <;> try first | omega | rfl | (simp <;> omega)
    refine wk_list [(0, some 0), (1, some 1), (2, some 2), (3, some 3)] rfl ?_ ?_ ?_ ?_
    all_goals try simp [bxO, scC_wk]
    rw [rgV_wk (by simp [mpOf])]
    trivial
   | false =>
    refine rgL fun K hK => ?_
    simp (disch := omega) [bxO, hgo, hge, g1, g2, g3]
    (repeat' first | apply hK | apply And.intro) <;> try first | omega | rfl | (simp <;> omega)
    refine wk_list [(0, some 0), (1, some 1), (2, some 2), (3, some 3)] rfl ?_ ?_ ?_ ?_
    all_goals try simp [bxO, scC_wk]
    ·by_cases h : T x x = x
     ·rw [h]; simp
     ·have h2 : ((T x x : Nat) : Int) ≠ (x : Int) := by omega
      rw [decide_eq_false h]; exact beq_eq_false_iff_ne.2 h2
    rw [rgV_wk (by simp [mpOf])]
    trivial
 rintro e σ ⟨rfl, hw⟩
 refine awp_weak hw ?_
 clear hw
 show awp _ _ _ _
 by_cases hp : P (x : Int) = true
 ·rw [if_pos hp] at htk
  rw [hp]
  refine condT (by simp <;> omega) ?_
  refine rgL fun K hK => ?_
  simp (disch := omega) [hgv, rgV_set]
  and_intros <;> try first | apply hK | omega | rfl | simp <;> omega
  show awp _ _ _ _
  refine rgL fun K hK => ?_
  simp (disch := omega)
  (repeat' first | apply hK | apply And.intro) <;> try first | omega | rfl | (simp <;> omega)
  refine ⟨k + 1, by omega, by omega, ?_⟩
  rw [htk]
  refine wk_list [(0, some 0), (1, some 1), (2, some 2), (3, some 3)] rfl ?_ ?_ ?_ ?_
  all_goals try simp [bxO, scC_wk, rgV_set]
  rw [rgV_wk (by simp [mpOf])]
  trivial
 ·rw [if_neg hp, List.append_nil] at htk
  have hp : P (x : Int) = false := by simpa using hp
  rw [hp]
  refine condF (by simp <;> omega) ?_
  refine awp_skip ?_
  show awp _ _ _ _
  refine rgL fun K hK => ?_
  simp (disch := omega)
  (repeat' first | apply hK | apply And.intro) <;> try first | omega | rfl | (simp <;> omega)
  refine ⟨k + 1, by omega, by omega, ?_⟩
  rw [htk]
  refine wk_list [(0, some 0), (1, some 1), (2, some 2), (3, some 3)] rfl ?_ ?_ ?_ ?_
  all_goals try simp [bxO, scC_wk]
  rw [rgV_wk (by simp [mpOf])]
  trivial
end Go.Proofs.YtghnmmfkckneaaaGreat.M

namespace Go.Proofs.YtghnmmfkckneaaaGreat.M
open Go.RowKit
set_option linter.unusedVariables false
set_option maxRecDepth 100000
set_option maxHeartbeats 32000000
attribute [local simp] ints rows scal wr64 wr8
set_option linter.unusedSimpArgs false

def idT (N : List Nat) : List T := N.map fun x => .int .i64 (x : Nat)
@[simp] theorem idT_len (N : List Nat) : (idT N).length = N.length := by simp [idT]
theorem idT_rep (n : Nat) : idT (List.replicate n 0) = List.replicate n (.int .i64 0) := by simp [idT]
def nxO (N : List Nat) : AObj := .row 3 1 1 (idT N)
def huO (pa pb : List (Int × Int)) (R : List (List Int)) (m k : Nat) : AObj := .box 100 [.ptr m 0 13, .t 1 (pgT pa), .t 1 (pgT pb), .t 1 (rows R), .own k R.length]
theorem closB_inv {T : Nat → Nat → Nat} {n : Nat} {set : List Int} (h : closB T n set = true) : ClosP T n set := by
 refine Classical.byContradiction fun hc => ?_
 rw [closB_f hc] at h
 cases h
noncomputable def huErr (tb : List (List Int)) (set : List Int) (a b : Tm) : Int :=
 if vErr tb ≠ 0 then vErr tb
 else if closB (tabOf tb) tb.length set = false then 1
 else if ¬ (a.val = true ∧ b.val = true) then 21
 else if idI (tabOf tb) tb.length < 0 ∧ (a.has1 || b.has1) = true then 9 else 0
theorem huErr_0 {tb : List (List Int)} {set : List Int} {a b : Tm} (h : huErr tb set a b = 0) : vErr tb = 0 ∧ ClosP (tabOf tb) tb.length set ∧ (a.val = true ∧ b.val = true) ∧ ¬ (idI (tabOf tb) tb.length < 0 ∧ (a.has1 || b.has1) = true) := by
 unfold huErr at h
 by_cases h1 : vErr tb ≠ 0
 ·rw [if_pos h1] at h; exact absurd h h1
 rw [if_neg h1] at h
 by_cases h2 : closB (tabOf tb) tb.length set = false
 ·rw [if_pos h2] at h; cases h
 rw [if_neg h2] at h
 by_cases h3 : ¬ (a.val = true ∧ b.val = true)
 ·rw [if_pos h3] at h; cases h
 rw [if_neg h3] at h
 by_cases h4 : idI (tabOf tb) tb.length < 0 ∧ (a.has1 || b.has1) = true
 ·rw [if_pos h4] at h; cases h
 exact ⟨by omega, closB_inv (by simpa using h2), Decidable.not_not.1 h3, h4⟩
theorem tsHunt (h : 100 < Tryz.prog.types.size) : (Tryz.prog.types[100]'h).size = 5 := by rfl
theorem pwA_out {po : List Nat} {T : Nat → Nat → Nat} {n : Nat} {u : Nat → Bool} {j : Nat} : outV po 1 (pwA T n u j) = pwA T n u j := by
 unfold pwA
 by_cases h : u j = true
 ·rw [if_pos h]; simp
 ·rw [if_neg h]; simp
theorem outVs_map (po : List Nat) (q : Nat) : ∀ l : List AV, outVs po q l = l.map (outV po q)
 | [] => rfl
 | a :: l => by
  show outV po q a :: outVs po q l = _
  rw [outVs_map po q l]
  rfl
theorem mcC_out {po : List Nat} {tb : List (List Int)} {T : Nat → Nat → Nat} {n : Nat} {one : Int} {u : Nat → Bool} : outVs po 1 (mcC tb T n one u) = mcC tb T n one u := by
 rw [outVs_map]
 unfold mcC
 rw [List.map_cons, List.map_cons, tab_map]
 congr 1
 congr 1
 exact tab_congr (fun j _ => pwA_out)
theorem inPs_of {H : Nat → Option AObj} {pi : List Nat} {q : Nat} : ∀ {as' bs : List AV}, as'.length = bs.length → (∀ (i : Nat) a b, as'[i]? = some a → bs[i]? = some b → inP H pi q a b) → inPs H pi q as' bs
 | [], [], _, _ => trivial
 | a :: as', b :: bs, h, hr => ⟨hr 0 a b rfl rfl, inPs_of (by simpa using h) (fun i x y hx hy => hr (i + 1) x y (by simpa using hx) (by simpa using hy))⟩
theorem mcC_in {H : Nat → Option AObj} {pi : List Nat} {tb : List (List Int)} {T : Nat → Nat → Nat} {n : Nat} {one : Int} {u : Nat → Bool} : inPs H pi 1 (mcC tb T n one u) (mcC tb T n one u) = True := by
 refine eq_true (inPs_of rfl (fun i a b ha hb => ?_))
 rw [ha] at hb
 injection hb with hb
 subst hb
 rcases mcC_get ha with ⟨-, rfl⟩ | ⟨-, rfl⟩ | ⟨j, -, -, rfl⟩
 ·exact ⟨rfl, .inr (.inr ⟨rfl, Nat.le_refl _⟩)⟩
 ·exact ⟨rfl, .inl rfl⟩
 ·exact ⟨rfl, .inr (.inr ⟨rfl, Nat.le_refl _⟩)⟩
theorem rng_2 : List.range 2 = [0, 1] := rfl
def ibO (a b : Tm) : AObj := .box 31 [.t 2 (.int .i64 a.op), .t 2 (.int .i64 a.n), .t 0 (.sl 3 (cellsL a.args)), .t 2 (.int .i64 b.op), .t 2 (.int .i64 b.n), .t 0 (.sl 3 (cellsL b.args))]
theorem rngL_len (T : Nat → Nat → Nat) (set : List Int) (a b : Tm) : (rngL T set a b).length = max a.gr b.gr := by simp [rngL]
theorem newHunt_e1 (tb : List (List Int)) (set : List Int) (a b : Tm) (v1 : vErr tb ≠ 0) : FnA Tryz.prog 34 [.t 1 (rows tb), .t 0 (ints set), idV 0 a b] (.tup [.t 2 .nilp, .t 2 (.int .i64 (vErr tb))]) := by
 have hV := mulVal_fn tb
 refine fn_intro Tryz.func34 rfl (by simp [Tryz.f34]) ?_
 rw [show Tryz.f34.ntmps = 72 from rfl, show Tryz.f34.results = #[.tmp 6, .tmp 7] from rfl]
 refine rgS fun K hK => ?_
 simp (disch := omega) [idV]
 and_intros <;> try first | apply hK | omega | rfl | simp <;> omega
 refine awp_seq ?_
 refine rgS fun K hK => ?_
 simp (disch := omega)
 (repeat' apply And.intro)
 all_goals (try omega)
 refine callO (hV) rfl rfl rfl rfl (by kernel_rfl) (by simp) ?_ ?_
 ·simp
 simp (disch := omega)
 and_intros <;> try first | apply hK | omega | rfl | simp <;> omega
 refine rgS fun K hK => ?_
 simp (disch := omega) [v1]
 and_intros <;> try first | apply hK | omega | rfl | simp <;> omega
 refine condT (by simp [v1] <;> omega) ?_
 refine rgS fun K hK => ?_
 simp (disch := omega)
 and_intros <;> try first | apply hK | omega | rfl | simp <;> omega
 refine awp_ret ?_
 refine ⟨⟨.inr rfl, _, [], rfl, trivial, trivial, by simp [idV], ?_⟩, by simp [idV]⟩
 simp [idV]
theorem newHunt_e2 (tb : List (List Int)) (set : List Int) (a b : Tm) (hs : set.length ≤ 100000) (v1 : vErr tb = 0) (hcl : closB (tabOf tb) tb.length set = false) : FnA Tryz.prog 34 [.t 1 (rows tb), .t 0 (ints set), idV 0 a b] (.tup [.t 2 .nilp, .t 2 (.int .i64 1)]) := by
 have hV := mulVal_fn tb
 have hI := oValidId_fn a b
 obtain ⟨hl0, hl4⟩ := vErr_len v1
 have hC := closed_fn tb tb.length (tabOf tb) (TbL.of v1) (by omega) set hs
 have hId := mulId_fn tb v1
 refine fn_intro Tryz.func34 rfl (by simp [Tryz.f34]) ?_
 rw [show Tryz.f34.ntmps = 72 from rfl, show Tryz.f34.results = #[.tmp 6, .tmp 7] from rfl]
 refine rgS fun K hK => ?_
 simp (disch := omega) [idV]
 and_intros <;> try first | apply hK | omega | rfl | simp <;> omega
 refine awp_seq ?_
 refine rgS fun K hK => ?_
 simp (disch := omega)
 (repeat' apply And.intro)
 all_goals (try omega)
 refine callO (hV) rfl rfl rfl rfl (by kernel_rfl) (by simp) ?_ ?_
 ·simp
 simp (disch := omega)
 and_intros <;> try first | apply hK | omega | rfl | simp <;> omega
 refine rgS fun K hK => ?_
 simp (disch := omega) [v1]
 and_intros <;> try first | apply hK | omega | rfl | simp <;> omega
 refine condF (by simp [v1] <;> omega) ?_
 refine awp_skip ?_
 show awp _ _ _ _
 refine awp_seq ?_
 refine rgS fun K hK => ?_
 simp (disch := omega)
 (repeat' apply And.intro)
 all_goals (try omega)
 refine callO (hC) rfl rfl rfl rfl (by kernel_rfl) (by simp) ?_ ?_
 ·simp
 simp (disch := omega) [hcl]
 and_intros <;> try first | apply hK | omega | rfl | simp <;> omega
 refine condT (by simp <;> omega) ?_
 refine rgS fun K hK => ?_
 simp (disch := omega)
 and_intros <;> try first | apply hK | omega | rfl | simp <;> omega
 refine awp_ret ?_
 refine ⟨⟨.inr rfl, _, [], rfl, trivial, trivial, by simp [idV], ?_⟩, by simp [idV]⟩
 simp [idV]
theorem newHunt_e3 (tb : List (List Int)) (set : List Int) (a b : Tm) (hs : set.length ≤ 100000) (v1 : vErr tb = 0) (hcl : closB (tabOf tb) tb.length set = true) (e3 : ¬ (a.val = true ∧ b.val = true)) : FnA Tryz.prog 34 [.t 1 (rows tb), .t 0 (ints set), idV 0 a b] (.tup [.t 2 .nilp, .t 2 (.int .i64 21)]) := by
 have hV := mulVal_fn tb
 have hI := oValidId_fn a b
 obtain ⟨hl0, hl4⟩ := vErr_len v1
 have hC := closed_fn tb tb.length (tabOf tb) (TbL.of v1) (by omega) set hs
 have hId := mulId_fn tb v1
 have h21 := vId_1 e3
 rw [h21] at hI
 refine fn_intro Tryz.func34 rfl (by simp [Tryz.f34]) ?_
 rw [show Tryz.f34.ntmps = 72 from rfl, show Tryz.f34.results = #[.tmp 6, .tmp 7] from rfl]
 refine rgS fun K hK => ?_
 simp (disch := omega) [idV]
 and_intros <;> try first | apply hK | omega | rfl | simp <;> omega
 refine awp_seq ?_
 refine rgS fun K hK => ?_
 simp (disch := omega)
 (repeat' apply And.intro)
 all_goals (try omega)
 refine callO (hV) rfl rfl rfl rfl (by kernel_rfl) (by simp) ?_ ?_
 ·simp
 simp (disch := omega)
 and_intros <;> try first | apply hK | omega | rfl | simp <;> omega
 refine rgS fun K hK => ?_
 simp (disch := omega) [v1]
 and_intros <;> try first | apply hK | omega | rfl | simp <;> omega
 refine condF (by simp [v1] <;> omega) ?_
 refine awp_skip ?_
 show awp _ _ _ _
 refine awp_seq ?_
 refine rgS fun K hK => ?_
 simp (disch := omega)
 (repeat' apply And.intro)
 all_goals (try omega)
 refine callO (hC) rfl rfl rfl rfl (by kernel_rfl) (by simp) ?_ ?_
 ·simp
 simp (disch := omega) [hcl]
 and_intros <;> try first | apply hK | omega | rfl | simp <;> omega
 refine condF (by simp <;> omega) ?_
 refine awp_skip ?_
 show awp _ _ _ _
 refine awp_seq ?_
 refine rgS fun K hK => ?_
 simp (disch := omega)
 (repeat' apply And.intro)
 all_goals (try omega)
 refine callO (hI) rfl rfl rfl rfl (by kernel_rfl) (by simp) ?_ ?_
 ·simp [idV]
 simp (disch := omega)
 and_intros <;> try first | apply hK | omega | rfl | simp <;> omega
 refine condT (by simp <;> omega) ?_
 refine rgS fun K hK => ?_
 simp (disch := omega)
 and_intros <;> try first | apply hK | omega | rfl | simp <;> omega
 refine awp_ret ?_
 refine ⟨⟨.inr rfl, _, [], rfl, trivial, trivial, by simp [idV], ?_⟩, by simp [idV]⟩
 simp [idV]
theorem newHunt_e4 (tb : List (List Int)) (set : List Int) (a b : Tm) (hs : set.length ≤ 100000) (v1 : vErr tb = 0) (hcl : closB (tabOf tb) tb.length set = true) (e3 : a.val = true ∧ b.val = true) (e4 : idI (tabOf tb) tb.length < 0) (e5 : (a.has1 || b.has1) = true) : FnA Tryz.prog 34 [.t 1 (rows tb), .t 0 (ints set), idV 0 a b] (.tup [.t 2 .nilp, .t 2 (.int .i64 9)]) := by
 have hV := mulVal_fn tb
 have hI := oValidId_fn a b
 obtain ⟨hl0, hl4⟩ := vErr_len v1
 have hC := closed_fn tb tb.length (tabOf tb) (TbL.of v1) (by omega) set hs
 have hId := mulId_fn tb v1
 have h0 := vId_0 e3
 rw [h0] at hI
 have hH := hasOne_fn [a, b] (by simp) (pair_ok e3)
 have hhe : has1L [a, b] = (a.has1 || b.has1) := by rw [has1L, has1L, has1L, Bool.or_false]
 rw [hhe, e5] at hH
 refine fn_intro Tryz.func34 rfl (by simp [Tryz.f34]) ?_
 rw [show Tryz.f34.ntmps = 72 from rfl, show Tryz.f34.results = #[.tmp 6, .tmp 7] from rfl]
 refine rgS fun K hK => ?_
 simp (disch := omega) [idV]
 and_intros <;> try first | apply hK | omega | rfl | simp <;> omega
 refine awp_seq ?_
 refine rgS fun K hK => ?_
 simp (disch := omega)
 (repeat' apply And.intro)
 all_goals (try omega)
 refine callO (hV) rfl rfl rfl rfl (by kernel_rfl) (by simp) ?_ ?_
 ·simp
 simp (disch := omega)
 and_intros <;> try first | apply hK | omega | rfl | simp <;> omega
 refine rgS fun K hK => ?_
 simp (disch := omega) [v1]
 and_intros <;> try first | apply hK | omega | rfl | simp <;> omega
 refine condF (by simp [v1] <;> omega) ?_
 refine awp_skip ?_
 show awp _ _ _ _
 refine awp_seq ?_
 refine rgS fun K hK => ?_
 simp (disch := omega)
 (repeat' apply And.intro)
 all_goals (try omega)
 refine callO (hC) rfl rfl rfl rfl (by kernel_rfl) (by simp) ?_ ?_
 ·simp
 simp (disch := omega) [hcl]
 and_intros <;> try first | apply hK | omega | rfl | simp <;> omega
 refine condF (by simp <;> omega) ?_
 refine awp_skip ?_
 show awp _ _ _ _
 refine awp_seq ?_
 refine rgS fun K hK => ?_
 simp (disch := omega)
 (repeat' apply And.intro)
 all_goals (try omega)
 refine callO (hI) rfl rfl rfl rfl (by kernel_rfl) (by simp) ?_ ?_
 ·simp [idV]
 simp (disch := omega)
 and_intros <;> try first | apply hK | omega | rfl | simp <;> omega
 refine condF (by simp <;> omega) ?_
 refine awp_skip ?_
 show awp _ _ _ _
 refine rgS fun K hK => ?_
 simp (disch := omega)
 (repeat' apply And.intro)
 all_goals (try omega)
 refine callO (hId) rfl rfl rfl rfl (by kernel_rfl) (by simp) ?_ ?_
 ·simp
 simp (disch := omega)
 and_intros <;> try first | apply hK | omega | rfl | simp <;> omega
 refine awp_weak (σ' := mkS [(0, .t 1 (rows tb)), (1, .t 0 (ints set)), (5, .ptr 0 0 6), (9, .t 2 (.int .i64 (idI (tabOf tb) tb.length)))] [(0, ibO a b)] 1 72 [.any, .any, .any]) ?_ ?_
 ·refine wk_list [(0, some 0)] rfl ?_ ?_ ?_ ?_
  all_goals try simp [ibO]
 refine awp_seq ?_
 refine rgS fun K hK => ?_
 simp (disch := omega) [ibO, e4, tsTerm, range_6]
 (repeat' apply And.intro)
 all_goals (try omega)
 refine callO (hH) (by simp [cells2, ibO, e4]) rfl rfl rfl (by kernel_rfl) (by simp) ?_ ?_
 ·simp [cells2, ibO, e4]
 simp (disch := omega) [ibO, e4]
 and_intros <;> try first | apply hK | omega | rfl | simp <;> omega
 refine condT (by simp <;> omega) ?_
 refine rgS fun K hK => ?_
 simp (disch := omega)
 and_intros <;> try first | apply hK | omega | rfl | simp <;> omega
 refine awp_ret ?_
 refine ⟨⟨.inr rfl, _, [], rfl, trivial, trivial, by simp [idV], ?_⟩, by simp [idV]⟩
 simp [idV]
theorem newHunt_ok (tb : List (List Int)) (set : List Int) (a b : Tm) (hs : set.length ≤ 100000) (v1 : vErr tb = 0) (hc : ClosP (tabOf tb) tb.length set) (e3 : a.val = true ∧ b.val = true) (e6 : ¬ (idI (tabOf tb) tb.length < 0 ∧ (a.has1 || b.has1) = true)) :
  FnS Tryz.prog 34 [.t 1 (rows tb), .t 0 (ints set), idV 0 a b] [] (.tup [.ptr 0 0 5, .t 2 (.int .i64 0)])
   [huO a.cmp b.cmp (rngL (tabOf tb) set a b) 1 2, mcO tb (tabOf tb) tb.length (idI (tabOf tb) tb.length) (useP [a.cmp, b.cmp] zU), nxO (List.replicate (rngL (tabOf tb) set a b).length 0)] := by
 have hcl := closB_t hc
 have hV := mulVal_fn tb
 have hI := oValidId_fn a b
 obtain ⟨hl0, hl4⟩ := vErr_len v1
 have hC := closed_fn tb tb.length (tabOf tb) (TbL.of v1) (by omega) set hs
 have hId := mulId_fn tb v1
 have h0 := vId_0 e3
 rw [h0] at hI
 have hH := hasOne_fn [a, b] (by simp) (pair_ok e3)
 have hhe : has1L [a, b] = (a.has1 || b.has1) := by rw [has1L, has1L, has1L, Bool.or_false]
 have ht := TbL.of v1
 obtain ⟨hao, has⟩ := val_ok e3.1
 obtain ⟨hbo, hbs⟩ := val_ok e3.2
 have hga := gr_6 a hao
 have hgb := gr_6 b hbo
 have hca := cmp_len a
 have hcb := cmp_len b
 have hR := ranges_fn tb tb.length (tabOf tb) ht (by omega) set hs hc.rng a b e3
 have hRl := rngL_len (tabOf tb) set a b
 have hA := compile_fn a hao (by omega)
 have hB := compile_fn b hbo (by omega)
 have hM := newMachine_fn tb tb.length (tabOf tb) ht (vErr_asc v1) hl0 (by omega) (idI (tabOf tb) tb.length) [a.cmp, b.cmp] (by simp) (fun p hp => by
  simp at hp
  rcases hp with rfl | rfl
  ·exact ⟨by omega, cmp_rng a hao⟩
  ·exact ⟨by omega, cmp_rng b hbo⟩)
 generalize useP [a.cmp, b.cmp] zU = U at hM ⊢
 generalize rngL (tabOf tb) set a b = R at hR hRl ⊢
 generalize a.cmp = pa at hA hM hca ⊢
 generalize b.cmp = pb at hB hM hcb ⊢
 refine fn_intro Tryz.func34 rfl (by simp [Tryz.f34]) ?_
 rw [show Tryz.f34.ntmps = 72 from rfl, show Tryz.f34.results = #[.tmp 6, .tmp 7] from rfl]
 refine rgS fun K hK => ?_
 simp (disch := omega) [idV]
 and_intros <;> try first | apply hK | omega | rfl | simp <;> omega
 refine awp_seq ?_
 refine rgS fun K hK => ?_
 simp (disch := omega)
 (repeat' apply And.intro)
 all_goals (try omega)
 refine callO (hV) rfl rfl rfl rfl (by kernel_rfl) (by simp) ?_ ?_
 ·simp
 simp (disch := omega)
 and_intros <;> try first | apply hK | omega | rfl | simp <;> omega
 refine rgS fun K hK => ?_
 simp (disch := omega) [v1]
 and_intros <;> try first | apply hK | omega | rfl | simp <;> omega
 refine condF (by simp [v1] <;> omega) ?_
 refine awp_skip ?_
 show awp _ _ _ _
 refine awp_seq ?_
 refine rgS fun K hK => ?_
 simp (disch := omega)
 (repeat' apply And.intro)
 all_goals (try omega)
 refine callO (hC) rfl rfl rfl rfl (by kernel_rfl) (by simp) ?_ ?_
 ·simp
 simp (disch := omega) [hcl]
 and_intros <;> try first | apply hK | omega | rfl | simp <;> omega
 refine condF (by simp <;> omega) ?_
 refine awp_skip ?_
 show awp _ _ _ _
 refine awp_seq ?_
 refine rgS fun K hK => ?_
 simp (disch := omega)
 (repeat' apply And.intro)
 all_goals (try omega)
 refine callO (hI) rfl rfl rfl rfl (by kernel_rfl) (by simp) ?_ ?_
 ·simp [idV]
 simp (disch := omega)
 and_intros <;> try first | apply hK | omega | rfl | simp <;> omega
 refine condF (by simp <;> omega) ?_
 refine awp_skip ?_
 show awp _ _ _ _
 refine rgS fun K hK => ?_
 simp (disch := omega)
 (repeat' apply And.intro)
 all_goals (try omega)
 refine callO (hId) rfl rfl rfl rfl (by kernel_rfl) (by simp) ?_ ?_
 ·simp
 simp (disch := omega)
 and_intros <;> try first | apply hK | omega | rfl | simp <;> omega
 refine awp_weak (σ' := mkS [(0, .t 1 (rows tb)), (1, .t 0 (ints set)), (5, .ptr 0 0 6), (9, .t 2 (.int .i64 (idI (tabOf tb) tb.length)))] [(0, ibO a b)] 1 72 [.any, .any, .any]) ?_ ?_
 ·refine wk_list [(0, some 0)] rfl ?_ ?_ ?_ ?_
  all_goals try simp [ibO]
 generalize idI (tabOf tb) tb.length = one at e6 hM ⊢
 refine awp_seq (awp_mono (Q := fun e σ => e = Exit.normal ∧ Wk σ (mkS [(0, .t 1 (rows tb)), (1, .t 0 (ints set)), (5, .ptr 0 0 6), (9, .t 2 (.int .i64 one))] [(0, ibO a b)] 1 72 [.any, .any, .any])) ?_ ?_)
 ·by_cases e4 : one < 0
  ·have e5 : (a.has1 || b.has1) = false := by
    cases h : (a.has1 || b.has1)
    ·rfl
    ·exact absurd ⟨e4, h⟩ e6
   rw [hhe, e5] at hH
   refine rgS fun K hK => ?_
   simp (disch := omega) [ibO, e4, tsTerm, range_6]
   (repeat' apply And.intro)
   all_goals (try omega)
   refine callO (hH) (by simp [cells2, ibO, e4]) rfl rfl rfl (by kernel_rfl) (by simp) ?_ ?_
   ·simp [cells2, ibO, e4]
   simp (disch := omega) [ibO, e4]
   and_intros <;> try first | apply hK | omega | rfl | simp <;> omega
   refine condF (by simp <;> omega) ?_
   refine awp_skip ?_
   refine ⟨rfl, ?_⟩
   refine wk_list [(0, some 0)] rfl ?_ ?_ ?_ ?_
   all_goals try simp [ibO]
  ·refine rgS fun K hK => ?_
   simp (disch := omega) [ibO, e4]
   and_intros <;> try first | apply hK | omega | rfl | simp <;> omega
   refine condF (by simp [e4] <;> omega) ?_
   refine awp_skip ?_
   refine ⟨rfl, ?_⟩
   refine wk_list [(0, some 0)] rfl ?_ ?_ ?_ ?_
   all_goals try simp [ibO]
 rintro e σ ⟨rfl, hw⟩
 refine awp_weak hw ?_
 clear hw
 show awp _ _ _ _
 refine awp_seqD (by kernel_rfl) (fun K hK => ?_)
 simp (disch := omega) [ibO, tsTerm]
 (repeat' apply And.intro)
 all_goals (try omega)
 refine callOD (hA) rfl rfl rfl rfl (by kernel_rfl) (by simp) ?_ ?_
 ·simp [tmV, ibO]
 simp (disch := omega) [ibO, tsTerm]
 (repeat' apply And.intro)
 all_goals (try omega)
 refine callOD (hB) rfl rfl rfl rfl (by kernel_rfl) (by simp) ?_ ?_
 ·simp [tmV, ibO]
 simp (disch := omega) [ibO, tsTerm]
 (repeat' apply And.intro)
 all_goals (try omega)
 refine callOD (hR) rfl rfl rfl rfl (by kernel_rfl) (by simp) ?_ ?_
 ·simp [idV, ibO]
 simp (disch := omega) [tsHunt]
 and_intros <;> try first | apply hK | (show chkD _ _ = true; kernel_rfl) | omega | rfl | simp <;> omega
 refine awp_weak (σ' := mkS [(0, .t 1 (rows tb)), (9, .t 2 (.int .i64 one)), (10, .ptr 0 0 5)] [(0, .box 100 [.t 2 .nilp, .t 2 (pgT pa), .t 2 (pgT pb), .t 2 (rows R), .t 2 (.sl 0 [])])] 1 72 [.any, .any, .any]) ?_ ?_
 ·refine wk_list [(0, some 11000001)] rfl ?_ ?_ ?_ ?_
  all_goals try simp [ibO, pgT, tsHunt]
 refine awp_seqD (by kernel_rfl) (fun K hK => ?_)
 simp (disch := omega) [pgT, rng_2]
 (repeat' apply And.intro)
 all_goals (try omega)
 refine call_ruleD (caps := []) (hM) [] [12000001] 1 rfl rfl rfl rfl (by kernel_rfl) (by simp) ?_ ?_ (by simp) rfl (by simp) ⟨.inl ⟨by omega, by omega⟩, trivial⟩ (by simp [mcO, pgT]) ?_
 ·simp [mcO, pgT]
 ·trivial
 simp (disch := omega) [mcO]
 and_intros <;> try first | apply hK | (show chkD _ _ = true; kernel_rfl) | omega | rfl | simp <;> omega
 refine awp_weak (σ' := mkS [(10, .ptr 0 0 5)] [(0, .box 100 [.ptr 1 0 13, .t 2 (pgT pa), .t 2 (pgT pb), .t 2 (rows R), .t 2 (.sl 0 [])]), (1, mcO tb (tabOf tb) tb.length one U)] 2 72 [.any, .any, .any]) ?_ ?_
 ·refine wk_list [(0, some 0), (1, some 12000001)] rfl ?_ ?_ ?_ ?_
  all_goals try simp [mcO, mcC_wk, mcC_out, pgT]
 refine rgS fun K hK => ?_
 simp (disch := omega)
 and_intros <;> try first | apply hK | omega | rfl | simp <;> omega
 refine rgS fun K hK => ?_
 simp (disch := omega)
 and_intros <;> try first | apply hK | omega | rfl | simp <;> omega
 refine awp_ret ?_
 refine ⟨⟨.inr rfl, _, [(0, some 0), (1, some 1), (2, some 6000002)], (by first | rfl | (simp [huO, mcO, mcC_wk, nxO, idT_rep, idV, pgT]; rfl)), ?_, ?_, ?_, ?_⟩, ?_⟩
 all_goals try simp [huO, mcO, mcC_wk, nxO, idT_rep, idV, pgT]

set_option maxRecDepth 100000
set_option maxHeartbeats 32000000
attribute [local simp] ints rows scal wr64 wr8
set_option linter.unusedSimpArgs false

def asgF (R : List (List Int)) (N : List Nat) (i : Nat) : Int := (R.getD i []).getD (N.getD i 0) 0
def asg (R : List (List Int)) (N : List Nat) : List Int := tab R.length (asgF R N)
@[simp] theorem asg_len (R : List (List Int)) (N : List Nat) : (asg R N).length = R.length := by simp [asg]
structure NOk (R : List (List Int)) (N : List Nat) : Prop where
 len : N.length = R.length
 lt : ∀ i (h : i < R.length), N.getD i 0 < (R.getD i []).length
theorem NOk.at {R : List (List Int)} {N : List Nat} (h : NOk R N) {i : Nat} (hi : i < R.length) : ∃ (h1 : i < N.length) (h2 : N[i] < R[i].length), R[i][N[i]] = asgF R N i := by
 have h1 : i < N.length := by rw [h.len]; exact hi
 have h3 := h.lt i hi
 have e1 : N.getD i 0 = N[i] := by simp [h1]
 have e2 : R.getD i [] = R[i] := by simp [hi]
 rw [e1, e2] at h3
 refine ⟨h1, h3, ?_⟩
 unfold asgF
 rw [e1, e2]
 simp [h3]
theorem NOk.set {R : List (List Int)} {N : List Nat} (h : NOk R N) {i v : Nat} (hv : ∀ hi : i < R.length, v < (R.getD i []).length) : NOk R (N.set i v) := by
 refine ⟨by simpa using h.len, fun j hj => ?_⟩
 by_cases e : j = i
 ·subst e
  have : (N.set j v).getD j 0 = v := by
   have hl : j < N.length := by rw [h.len]; exact hj
   simp [hl]
  rw [this]
  exact hv hj
 ·have : (N.set i v).getD j 0 = N.getD j 0 := by
   have : i ≠ j := fun e2 => e e2.symm
   simp [List.getD_eq_getElem?_getD, List.getElem?_set_ne this]
  rw [this]
  exact h.lt j hj
def advG (R : List (List Int)) : List Nat → Nat → List Nat × Bool
 | N, 0 => (N, false)
 | N, i + 1 => if N.getD i 0 + 1 < (R.getD i []).length then (N.set i (N.getD i 0 + 1), true) else advG R (N.set i 0) i
def advI (R : List (List Int)) (N : List Nat) : List Nat × Bool := advG R N R.length
theorem advG_ok {R : List (List Int)} : ∀ (i : Nat) {N : List Nat}, NOk R N → i ≤ R.length → NOk R (advG R N i).1
 | 0, N, h, _ => h
 | i + 1, N, h, hi => by
  rw [advG]
  split
  ·rename_i h2
   exact h.set fun _ => h2
  ·exact advG_ok i (h.set fun hi2 => by have := h.lt i hi2; omega) (by omega)
theorem advI_ok {R : List (List Int)} {N : List Nat} (h : NOk R N) : NOk R (advI R N).1 := advG_ok _ h (Nat.le_refl _)
def runH (v1 v2 : List Nat → Nat) (R : List (List Int)) : Nat → Nat → List Nat → Nat × Bool × Bool × List Nat
 | 0, s, N => (s, false, false, N)
 | f + 1, s, N => if v1 N ≠ v2 N then (s + 1, true, true, N) else if (advI R N).2 = true then runH v1 v2 R f (s + 1) (advI R N).1 else (s + 1, false, true, (advI R N).1)
theorem runH_ok {v1 v2 : List Nat → Nat} {R : List (List Int)} : ∀ (f s : Nat) {N : List Nat}, NOk R N → NOk R (runH v1 v2 R f s N).2.2.2 ∧ s ≤ (runH v1 v2 R f s N).1 ∧ (runH v1 v2 R f s N).1 ≤ s + f
 | 0, s, N, h => ⟨h, Nat.le_refl _, Nat.le_refl _⟩
 | f + 1, s, N, h => by
  rw [runH]
  split
  ·exact ⟨h, by simp only; omega, by simp only; omega⟩
  ·split
   ·have := runH_ok (v1 := v1) (v2 := v2) f (s + 1) (advI_ok h)
    exact ⟨this.1, by omega, by omega⟩
   ·exact ⟨advI_ok h, by simp only; omega, by simp only; omega⟩
theorem idT_set (N : List Nat) (i v : Nat) : (idT N).set i (.int .i64 (v : Nat)) = idT (N.set i v) := by
 unfold idT
 rw [List.map_set]
def vaO (R : List (List Int)) (W : Nat → Int) : AObj := .row 3 1 2 (tab R.length fun i => .int .i64 (W i))
theorem hvalues_fn (pa pb : List (Int × Int)) (R : List (List Int)) (hRl : R.length ≤ 1000) (tb : List (List Int)) (T : Nat → Nat → Nat) (n : Nat) (one : Int) (u : Nat → Bool) (N : List Nat) (hN : NOk R N) :
  FnS Tryz.prog 37 [.ptr 0 0 5] [huO pa pb R 1 2, mcO tb T n one u, nxO N] (.own 3 R.length) [huO pa pb R 1 2, mcO tb T n one u, nxO N, vaO R (asgF R N)] := by
 have hNl := hN.len
 refine fn_intro Tryz.func37 rfl (by simp [Tryz.f37]) ?_
 rw [show Tryz.f37.ntmps = 37 from rfl, show Tryz.f37.results = #[.tmp 2] from rfl]
 refine rgS fun K hK => ?_
 simp (disch := omega)
 and_intros <;> try first | apply hK | omega | rfl | simp <;> omega
 refine rgS fun K hK => ?_
 simp (disch := omega) [huO, nxO, hNl]
 and_intros <;> try first | apply hK | omega | rfl | simp <;> omega
 refine awp_seq ?_
 refine rgS fun K hK => ?_
 simp (disch := omega) [huO, nxO, hNl]
 and_intros <;> try first | apply hK | omega | rfl | simp <;> omega
 refine awp_block ?_
 refine awp_loop (fun k : Nat => mkS [(0, .ptr 0 0 5), (3, .own 3 R.length), (15, .own 2 R.length), (16, .t 2 (.int .i64 R.length)), (17, .t 2 (.int .i64 k))] [(0, huO pa pb R 1 2), (1, mcO tb T n one u), (2, nxO N), (3, vaO R fun i => if i < k then asgF R N i else 0)] 4 37 [.ptr 0 0 5]) (fun k => k ≤ R.length) (fun k => R.length - k) ?_ ?_
 ·refine ⟨0, by omega, ?_⟩
  refine wk_list [(0, some 0), (1, some 1), (2, some 2), (3, some 6000003)] rfl ?_ ?_ ?_ ?_
  all_goals try simp [huO, mcO, mcC_wk, nxO, vaO, rep_tab, pgT]
 intro k hk
 refine rgS fun K hK => ?_
 simp (disch := omega)
 and_intros <;> try first | apply hK | omega | rfl | simp <;> omega
 refine awp_seq ?_
 by_cases hkl : k < R.length
 ·obtain ⟨h1, h2, h3⟩ := hN.at hkl
  refine condT (by simp [hkl] <;> omega) ?_
  refine awp_skip ?_
  show awp _ _ _ _
  refine awp_seq ?_
  refine awp_block ?_
  refine rgS fun K hK => ?_
  simp (disch := omega) [nxO, idT, hNl, hkl, h1]
  and_intros <;> try first | apply hK | omega | rfl | simp <;> omega
  refine rgL fun K hK => ?_
  simp (disch := omega) [huO, vaO, hkl, h2, h3]
  and_intros <;> try first | apply hK | omega | rfl | simp <;> omega
  show awp _ _ _ _
  refine rgL fun K hK => ?_
  simp (disch := omega)
  (repeat' first | apply hK | apply And.intro) <;> try first | omega | rfl | (simp <;> omega)
  refine ⟨k + 1, by omega, by omega, ?_⟩
  refine wk_list [(0, some 0), (1, some 1), (2, some 2), (3, some 3)] rfl ?_ ?_ ?_ ?_
  all_goals try simp [huO, mcO, mcC_wk, nxO, vaO, idT, pgT]
  rw [tab_set]
  refine tab_congr (fun i hi => ?_)
  by_cases e : i = k
  ·subst e; simp
  ·rw [if_neg e]
   by_cases e2 : i < k
   ·rw [if_pos e2, if_pos (by omega)]
   ·rw [if_neg e2, if_neg (by omega)]
 ·obtain rfl : k = R.length := by omega
  refine condF (by simp <;> omega) ?_
  refine awp_exit ?_
  show awp _ _ _ _
  refine rgS fun K hK => ?_
  simp (disch := omega)
  and_intros <;> try first | apply hK | omega | rfl | simp <;> omega
  refine awp_ret ?_
  refine ⟨⟨.inr rfl, _, [(0, some 0), (1, some 1), (2, some 2), (3, some 3)], (by first | rfl | (simp [huO, mcO, mcC_wk, nxO, vaO, idT, pgT]; rfl)), ?_, ?_, ?_, ?_⟩, ?_⟩
  all_goals try simp [huO, mcO, mcC_wk, nxO, vaO, idT, pgT]
  exact tab_congr (fun i hi => by rw [if_pos hi])
theorem hadvance_fn (pa pb : List (Int × Int)) (R : List (List Int)) (hRl : R.length ≤ 1000) (hRL : ∀ l ∈ R, l.length ≤ 100000) (tb : List (List Int)) (T : Nat → Nat → Nat) (n : Nat) (one : Int) (u : Nat → Bool) (N : List Nat) (hN : NOk R N) :
  FnS Tryz.prog 73 [.ptr 0 0 5] [huO pa pb R 1 2, mcO tb T n one u, nxO N] (.t 2 (.bool (advI R N).2)) [huO pa pb R 1 2, mcO tb T n one u, nxO (advI R N).1] := by
 refine fn_intro Tryz.func73 rfl (by simp [Tryz.f73]) ?_
 rw [show Tryz.f73.ntmps = 45 from rfl, show Tryz.f73.results = #[.tmp 2] from rfl]
 have hNl := hN.len
 refine rgS fun K hK => ?_
 simp (disch := omega)
 and_intros <;> try first | apply hK | omega | rfl | simp <;> omega
 refine awp_seq ?_
 refine rgS fun K hK => ?_
 simp (disch := omega) [huO, nxO, hNl]
 and_intros <;> try first | apply hK | omega | rfl | simp <;> omega
 refine awp_block ?_
 refine awp_loop (fun y : Nat × List Nat => mkS [(0, .ptr 0 0 5), (3, .t 2 (.int .i64 ((y.1 : Nat) - 1 : Int)))] [(0, huO pa pb R 1 2), (1, mcO tb T n one u), (2, nxO y.2)] 3 45 [.ptr 0 0 5]) (fun y => y.1 ≤ R.length ∧ NOk R y.2 ∧ advI R N = advG R y.2 y.1) (fun y => y.1) ?_ ?_
 ·refine ⟨(R.length, N), ⟨Nat.le_refl _, hN, rfl⟩, ?_⟩
  refine wk_list [(0, some 0), (1, some 1), (2, some 2)] rfl ?_ ?_ ?_ ?_
  all_goals try simp [huO, mcO, mcC_wk, nxO, pgT]
 rintro ⟨i, M⟩ ⟨hi, hM, hex⟩
 simp only at hi hM hex
 rw [hex]
 have hMl := hM.len
 refine awp_seq ?_
 rcases i with _ | i
 ·refine rgS fun K hK => ?_
  simp (disch := omega)
  and_intros <;> try first | apply hK | omega | rfl | simp <;> omega
  refine condF (by simp <;> omega) ?_
  refine awp_exit ?_
  show awp _ _ _ _
  refine rgS fun K hK => ?_
  simp (disch := omega)
  and_intros <;> try first | apply hK | omega | rfl | simp <;> omega
  refine awp_ret ?_
  refine ⟨⟨.inr rfl, _, [(0, some 0), (1, some 1), (2, some 2)], (by first | rfl | (simp [huO, mcO, mcC_wk, nxO, pgT, advG]; rfl)), ?_, ?_, ?_, ?_⟩, ?_⟩
  all_goals try simp [huO, mcO, mcC_wk, nxO, pgT, advG]
 ·have hil : i < R.length := by omega
  obtain ⟨h1, h2, h3⟩ := hM.at hil
  have e1 : M.getD i 0 = M[i] := by simp [h1]
  have e2 : R.getD i [] = R[i] := by simp [hil]
  have hRi := hRL R[i] (List.getElem_mem hil)
  rw [advG, e1, e2]
  have hset : (idT M).set i (.int .i64 ((M[i] : Nat) + 1 : Int)) = idT (M.set i (M[i] + 1)) := idT_set M i (M[i] + 1)
  have hset2 : (idT (M.set i (M[i] + 1))).set i (.int .i64 0) = idT (M.set i 0) := by rw [← Int.natCast_zero, idT_set, List.set_set]
  have hget : (M.set i (M[i] + 1))[i]? = some (M[i] + 1) := by simp [h1]
  have hget2 : (idT M)[i]? = some (.int .i64 (M[i] : Nat)) := by unfold idT; rw [List.getElem?_map, List.getElem?_eq_getElem h1]; rfl
  have hget3 : (idT (M.set i (M[i] + 1)))[i]? = some (.int .i64 ((M[i] : Nat) + 1 : Int)) := by unfold idT; rw [List.getElem?_map, hget]; rfl
  generalize hm : M[i] = mi at h2 h3 hset hset2 hget hget2 hget3 ⊢
  refine rgS fun K hK => ?_
  simp (disch := omega)
  and_intros <;> try first | apply hK | omega | rfl | simp <;> omega
  refine condT (by simp <;> omega) ?_
  refine awp_skip ?_
  show awp _ _ _ _
  refine awp_seq ?_
  refine awp_block ?_
  refine rgS fun K hK => ?_
  simp (disch := omega) [huO, nxO, hMl, hil, hget2, hset]
  and_intros <;> try first | apply hK | omega | rfl | simp <;> omega
  refine awp_seq ?_
  by_cases e : mi + 1 < R[i].length
  ·have e' : (mi : Int) + 1 < (R[i].length : Int) := by omega
   rw [if_pos e]
   refine awp_seqD (by kernel_rfl) (fun K hK => ?_)
   simp (disch := omega) [huO, nxO, hMl, hil, hget3, hset]
   and_intros <;> try first | apply hK | (show chkD _ _ = true; kernel_rfl) | omega | rfl | simp <;> omega
   refine condT (by simp [e'] <;> omega) ?_
   refine rgS fun K hK => ?_
   simp (disch := omega)
   and_intros <;> try first | apply hK | omega | rfl | simp <;> omega
   refine awp_ret ?_
   refine ⟨⟨.inr rfl, _, [(0, some 0), (1, some 1), (2, some 2)], (by first | rfl | (simp [huO, mcO, mcC_wk, nxO, pgT, hset]; rfl)), ?_, ?_, ?_, ?_⟩, ?_⟩
   all_goals try simp [huO, mcO, mcC_wk, nxO, pgT, hset]
  ·have e' : ¬ (mi : Int) + 1 < (R[i].length : Int) := by omega
   rw [if_neg e]
   refine awp_seqD (by kernel_rfl) (fun K hK => ?_)
   simp (disch := omega) [huO, nxO, hMl, hil, hget3, hset]
   and_intros <;> try first | apply hK | (show chkD _ _ = true; kernel_rfl) | omega | rfl | simp <;> omega
   refine condF (by simp [e'] <;> omega) ?_
   refine awp_skip ?_
   show awp _ _ _ _
   refine rgL fun K hK => ?_
   simp (disch := omega) [huO, nxO, hMl, hil, hset, hset2]
   and_intros <;> try first | apply hK | omega | rfl | simp <;> omega
   show awp _ _ _ _
   refine rgL fun K hK => ?_
   simp (disch := omega)
   (repeat' first | apply hK | apply And.intro) <;> try first | omega | rfl | (simp <;> omega)
   refine ⟨(i, M.set i 0), ⟨by simp only; omega, hM.set (fun hi2 => by rw [e2]; omega), rfl⟩, by simp only; omega, ?_⟩
   refine wk_list [(0, some 0), (1, some 1), (2, some 2)] rfl ?_ ?_ ?_ ?_
   all_goals try simp [huO, mcO, mcC_wk, nxO, pgT, hset, hset2]
structure HRun (R : List (List Int)) (T : Nat → Nat → Nat) (n : Nat) (one : Int) (u : Nat → Bool) (pa pb : List (Int × Int)) (v1 v2 : List Nat → Nat) : Prop where
 la : pa.length ≤ 100000
 lb : pb.length ≤ 100000
 a : ∀ N, NOk R N → Exn T n one u (asg R N) [] pa (v1 N)
 b : ∀ N, NOk R N → Exn T n one u (asg R N) [] pb (v2 N)
theorem asg_ints (R : List (List Int)) (N : List Nat) : ints (asg R N) = .sl 1 (tab R.length fun i => .int .i64 (asgF R N i)) := by
 unfold ints asg
 rw [tab_map]
theorem hrun_fn (pa pb : List (Int × Int)) (R : List (List Int)) (hRl : R.length ≤ 1000) (hRL : ∀ l ∈ R, l.length ≤ 100000) (tb : List (List Int)) (T : Nat → Nat → Nat) (n : Nat) (ht : TbL tb n T) (hA : Assoc n T) (hn : n ≤ 1000) (one : Int) (u : Nat → Bool) (v1 v2 : List Nat → Nat) (hE : HRun R T n one u pa pb v1 v2) (limit : Nat) (hlim : limit ≤ 10000000) (N : List Nat) (hN : NOk R N) :
  FnS Tryz.prog 36 [.ptr 0 0 5, .t 2 (.int .i64 (limit : Nat))] [huO pa pb R 1 2, mcO tb T n one u, nxO N]
   (.tup [.t 2 (.int .i64 ((runH v1 v2 R limit 0 N).1 : Nat)), .t 2 (.bool (runH v1 v2 R limit 0 N).2.1), .t 2 (.bool (runH v1 v2 R limit 0 N).2.2.1)])
   [huO pa pb R 1 2, mcO tb T n one u, nxO (runH v1 v2 R limit 0 N).2.2.2] := by
 have hVal := hvalues_fn pa pb R hRl tb T n one u N hN
 have hNl := hN.len
 refine fn_intro Tryz.func36 rfl (by simp [Tryz.f36]) ?_
 rw [show Tryz.f36.ntmps = 68 from rfl, show Tryz.f36.results = #[.tmp 4, .tmp 5, .tmp 6] from rfl]
 refine rgS fun K hK => ?_
 simp (disch := omega)
 and_intros <;> try first | apply hK | omega | rfl | simp <;> omega
 refine rgS fun K hK => ?_
 simp (disch := omega)
 (repeat' apply And.intro)
 all_goals (try omega)
 refine call_rule (caps := []) (hVal) [0, 1, 2] [0, 4000003, 4000004, 4000005] 1 rfl rfl rfl rfl (by kernel_rfl) (by simp) ?_ ?_ (by simp) rfl (by simp) ⟨.inr ⟨rfl, 0, _, _, _, _, _, rfl, rfl, (by first | rfl | simp [huO, mcO, mcC_in, mcC_out, nxO, pgT, vaO]), rfl, (by first | rfl | simp [huO, mcO, mcC_in, mcC_out, nxO, pgT, vaO])⟩, .inl ⟨by omega, by omega⟩, .inl ⟨by omega, by omega⟩, .inl ⟨by omega, by omega⟩, trivial⟩ (by simp [huO, mcO, mcC_in, mcC_out, nxO, pgT, vaO]) ?_
 ·simp [huO, mcO, mcC_in, mcC_out, nxO, pgT, vaO]
 ·simp [huO, mcO, mcC_in, mcC_out, nxO, pgT, vaO]
 simp (disch := omega) [huO, mcO, mcC_out, nxO, vaO]
 and_intros <;> try first | apply hK | omega | rfl | simp <;> omega
 refine awp_seq ?_
 refine awp_block ?_
 refine awp_loop (fun y : Nat × List Nat × (Nat → Int) => mkS [(0, .ptr 0 0 5), (1, .t 2 (.int .i64 (limit : Nat))), (4, .t 2 (.int .i64 (y.1 : Nat))), (7, .own 3 R.length)] [(0, huO pa pb R 1 2), (1, mcO tb T n one u), (2, nxO y.2.1), (3, vaO R y.2.2)] 4 68 [.ptr 0 0 5, .any]) (fun y => y.1 ≤ limit ∧ NOk R y.2.1 ∧ runH v1 v2 R limit 0 N = runH v1 v2 R (limit - y.1) y.1 y.2.1) (fun y => limit - y.1) ?_ ?_
 ·refine ⟨(0, N, asgF R N), ⟨by simp, hN, rfl⟩, ?_⟩
  refine wk_list [(0, some 0), (1, some 4000003), (2, some 4000004), (3, some 4000005)] rfl ?_ ?_ ?_ ?_
  all_goals try simp [huO, mcO, mcC_wk, nxO, vaO, pgT]
 rintro ⟨s, M, W⟩ ⟨hs, hM, hex⟩
 simp only at hs hM hex
 rw [hex]
 have hMl := hM.len
 refine awp_seq ?_
 by_cases hsl : s < limit
 case neg =>
  obtain rfl : s = limit := by omega
  rw [Nat.sub_self, runH]
  refine rgS fun K hK => ?_
  simp (disch := omega)
  and_intros <;> try first | apply hK | omega | rfl | simp <;> omega
  refine condF (by simp <;> omega) ?_
  refine awp_exit ?_
  show awp _ _ _ _
  refine rgS fun K hK => ?_
  simp (disch := omega)
  and_intros <;> try first | apply hK | omega | rfl | simp <;> omega
  refine awp_ret ?_
  refine ⟨⟨.inr rfl, _, [(0, some 0), (1, some 1), (2, some 2)], (by first | rfl | (simp [huO, mcO, mcC_wk, nxO, pgT]; rfl)), ?_, ?_, ?_, ?_⟩, ?_⟩
  all_goals try simp [huO, mcO, mcC_wk, nxO, pgT]
 have hE1 := hE.a M hM
 have hE2 := hE.b M hM
 have hAd := hadvance_fn pa pb R hRl hRL tb T n one u M hM
 have hr1 := run_fn tb n T ht hA hn one u (asg R M) pa hE.la (v1 M) hE1
 have hr2 := run_fn tb n T ht hA hn one u (asg R M) pb hE.lb (v2 M) hE2
 rw [asg_ints] at hr1 hr2
 rw [show limit - s = (limit - (s + 1)) + 1 by omega, runH]
 refine rgS fun K hK => ?_
 simp (disch := omega)
 and_intros <;> try first | apply hK | omega | rfl | simp <;> omega
 refine condT (by simp [hsl] <;> omega) ?_
 refine awp_skip ?_
 show awp _ _ _ _
 refine awp_block ?_
 refine rgS fun K hK => ?_
 simp (disch := omega)
 and_intros <;> try first | apply hK | omega | rfl | simp <;> omega
 refine awp_seq ?_
 refine rgS fun K hK => ?_
 simp (disch := omega) [huO, nxO, hMl]
 and_intros <;> try first | apply hK | omega | rfl | simp <;> omega
 refine awp_block ?_
 refine awp_loop (fun k : Nat => mkS [(0, .ptr 0 0 5), (1, .t 2 (.int .i64 (limit : Nat))), (4, .t 2 (.int .i64 ((s + 1 : Nat) : Int))), (7, .own 3 R.length), (20, .own 2 R.length), (21, .t 2 (.int .i64 R.length)), (22, .t 2 (.int .i64 k))] [(0, huO pa pb R 1 2), (1, mcO tb T n one u), (2, nxO M), (3, vaO R fun i => if i < k then asgF R M i else W i)] 4 68 [.ptr 0 0 5, .any]) (fun k => k ≤ R.length) (fun k => R.length - k) ?_ ?_
 ·refine ⟨0, by omega, ?_⟩
  refine wk_list [(0, some 0), (1, some 1), (2, some 2), (3, some 3)] rfl ?_ ?_ ?_ ?_
  all_goals try simp [huO, mcO, mcC_wk, nxO, vaO, pgT]
 intro k hk
 refine rgS fun K hK => ?_
 simp (disch := omega)
 and_intros <;> try first | apply hK | omega | rfl | simp <;> omega
 refine awp_seq ?_
 by_cases hkl : k < R.length
 ·obtain ⟨h1, h2, h3⟩ := hM.at hkl
  refine condT (by simp [hkl] <;> omega) ?_
  refine awp_skip ?_
  show awp _ _ _ _
  refine awp_seq ?_
  refine awp_block ?_
  refine rgS fun K hK => ?_
  simp (disch := omega) [nxO, idT, hMl, hkl, h1]
  and_intros <;> try first | apply hK | omega | rfl | simp <;> omega
  refine rgL fun K hK => ?_
  simp (disch := omega) [huO, vaO, hkl, h2, h3]
  and_intros <;> try first | apply hK | omega | rfl | simp <;> omega
  show awp _ _ _ _
  refine rgL fun K hK => ?_
  simp (disch := omega)
  (repeat' first | apply hK | apply And.intro) <;> try first | omega | rfl | (simp <;> omega)
  refine ⟨k + 1, by omega, by omega, ?_⟩
  refine wk_list [(0, some 0), (1, some 1), (2, some 2), (3, some 3)] rfl ?_ ?_ ?_ ?_
  all_goals try simp [huO, mcO, mcC_wk, nxO, vaO, idT, pgT]
  rw [tab_set]
  refine tab_congr (fun i hi => ?_)
  by_cases e : i = k
  ·subst e; simp
  ·rw [if_neg e]
   by_cases e2 : i < k
   ·rw [if_pos e2, if_pos (by omega)]
   ·rw [if_neg e2, if_neg (by omega)]
 obtain rfl : k = R.length := by omega
 have hva : vaO R (fun i => if i < R.length then asgF R M i else W i) = vaO R (asgF R M) := by
  unfold vaO
  congr 1
  exact tab_congr (fun i hi => by simp only [if_pos hi])
 rw [hva]
 refine condF (by simp <;> omega) ?_
 refine awp_exit ?_
 show awp _ _ _ _
 refine awp_seq ?_
 refine awp_seqD (by kernel_rfl) (fun K hK => ?_)
 simp (disch := omega) [huO]
 (repeat' apply And.intro)
 all_goals (try omega)
 refine call_ruleD (caps := []) (hr1) [1] [1] 1 rfl rfl rfl rfl (by kernel_rfl) (by simp) ?_ ?_ (by simp) rfl (by simp) ⟨.inr ⟨rfl, 0, _, _, _, _, _, rfl, rfl, (by first | rfl | simp [huO, mcO, mcC_in, mcC_out, vaO, pgT]), rfl, (by first | rfl | simp [huO, mcO, mcC_in, mcC_out, vaO, pgT])⟩, trivial⟩ (by simp [huO, mcO, mcC_in, mcC_out, vaO, pgT]) ?_
 ·simp [huO, mcO, mcC_in, mcC_out, vaO, pgT]
 ·simp [huO, mcO, mcC_in, mcC_out, vaO, pgT]
 simp (disch := omega) [huO, mcC_out]
 (repeat' apply And.intro)
 all_goals (try omega)
 refine call_ruleD (caps := []) (hr2) [1] [1] 1 rfl rfl rfl rfl (by kernel_rfl) (by simp) ?_ ?_ (by simp) rfl (by simp) ⟨.inr ⟨rfl, 0, _, _, _, _, _, rfl, rfl, (by first | rfl | simp [huO, mcO, mcC_in, mcC_out, vaO, pgT]), rfl, (by first | rfl | simp [huO, mcO, mcC_in, mcC_out, vaO, pgT])⟩, trivial⟩ (by simp [huO, mcO, mcC_in, mcC_out, vaO, pgT]) ?_
 ·simp [huO, mcO, mcC_in, mcC_out, vaO, pgT]
 ·simp [huO, mcO, mcC_in, mcC_out, vaO, pgT]
 simp (disch := omega) [huO, mcC_out]
 (repeat' first | apply hK | apply And.intro) <;> try first | (show chkD _ _ = true; kernel_rfl) | omega | rfl | (simp <;> omega)
 by_cases e : v1 M = v2 M
 case neg =>
  rw [if_pos e]
  refine condT (by simp [e] <;> omega) ?_
  refine rgS fun K hK => ?_
  simp (disch := omega)
  and_intros <;> try first | apply hK | omega | rfl | simp <;> omega
  refine awp_ret ?_
  refine ⟨⟨.inr rfl, _, [(0, some 0), (1, some 1), (2, some 2)], (by first | rfl | (simp [huO, mcO, mcC_wk, mcC_out, nxO, pgT]; rfl)), ?_, ?_, ?_, ?_⟩, ?_⟩
  all_goals try simp [huO, mcO, mcC_wk, mcC_out, nxO, pgT]
 have e' : ¬ (v1 M ≠ v2 M) := fun h => h e
 rw [if_neg e']
 refine condF (by simp [e] <;> omega) ?_
 refine awp_skip ?_
 show awp _ _ _ _
 refine awp_weak (σ' := mkS [(0, .ptr 0 0 5), (1, .t 2 (.int .i64 (limit : Nat))), (4, .t 2 (.int .i64 ((s + 1 : Nat) : Int))), (7, .own 3 R.length)] [(0, huO pa pb R 1 2), (1, mcO tb T n one u), (2, nxO M), (3, vaO R (asgF R M))] 4 68 [.ptr 0 0 5, .any]) ?_ ?_
 ·refine wk_list [(0, some 0), (1, some 1), (2, some 2), (3, some 3)] rfl ?_ ?_ ?_ ?_
  all_goals try simp [huO, mcO, mcC_wk, mcC_out, nxO, vaO, pgT]
 refine rgS fun K hK => ?_
 simp (disch := omega)
 (repeat' apply And.intro)
 all_goals (try omega)
 refine call_rule (caps := []) (hAd) [0, 1, 2] [0, 1000004, 1000005] 1 rfl rfl rfl rfl (by kernel_rfl) (by simp) ?_ ?_ (by simp) rfl (by simp) ⟨.inr ⟨rfl, 0, _, _, _, _, _, rfl, rfl, (by first | rfl | simp [huO, mcO, mcC_in, mcC_out, nxO, pgT]), rfl, (by first | rfl | simp [huO, mcO, mcC_in, mcC_out, nxO, pgT])⟩, .inl ⟨by omega, by omega⟩, .inl ⟨by omega, by omega⟩, trivial⟩ (by simp [huO, mcO, mcC_in, mcC_out, nxO, pgT]) ?_
 ·simp [huO, mcO, mcC_in, mcC_out, nxO, pgT]
 ·simp [huO, mcO, mcC_in, mcC_out, nxO, pgT]
 simp (disch := omega) [huO, mcO, mcC_out, nxO]
 (repeat' first | apply hK | apply And.intro) <;> try first | omega | rfl | (simp <;> omega)
 cases hb : (advI R M).2 with
 | true =>
  simp only [↓reduceIte]
  refine condF (by simp [hb] <;> omega) ?_
  refine awp_skip ?_
  refine ⟨(s + 1, (advI R M).1, asgF R M), ⟨by simp only; omega, advI_ok hM, rfl⟩, by simp only; omega, ?_⟩
  refine wk_list [(0, some 0), (1, some 1000004), (2, some 1000005), (3, some 3)] rfl ?_ ?_ ?_ ?_
  all_goals try simp [huO, mcO, mcC_wk, mcC_out, nxO, vaO, pgT]
 | false =>
  simp only [Bool.false_eq_true, ↓reduceIte]
  refine condT (by simp [hb] <;> omega) ?_
  refine rgS fun K hK => ?_
  simp (disch := omega)
  and_intros <;> try first | apply hK | omega | rfl | simp <;> omega
  refine awp_ret ?_
  refine ⟨⟨.inr rfl, _, [(0, some 0), (1, some 1000004), (2, some 1000005)], (by first | rfl | (simp [huO, mcO, mcC_wk, mcC_out, nxO, pgT]; rfl)), ?_, ?_, ?_, ?_⟩, ?_⟩
  all_goals try simp [huO, mcO, mcC_wk, mcC_out, nxO, pgT]

set_option maxRecDepth 100000
set_option maxHeartbeats 32000000
attribute [local simp] ints rows scal wr64 wr8
set_option linter.unusedSimpArgs false

theorem idG_rng {T : Nat → Nat → Nat} {n : Nat} : ∀ (f e : Nat), e + f = n → idG T n f e = -1 ∨ ∃ x : Nat, idG T n f e = (x : Int) ∧ x < n ∧ isId T n x = true
 | 0, e, _ => .inl rfl
 | f + 1, e, h => by
  rw [idG]
  by_cases hi : isId T n e = true
  ·rw [if_pos hi]; exact .inr ⟨e, rfl, by omega, hi⟩
  ·rw [if_neg hi]; exact idG_rng f (e + 1) (by omega)
theorem idI_rng (T : Nat → Nat → Nat) (n : Nat) : idI T n = -1 ∨ ∃ x : Nat, idI T n = (x : Int) ∧ x < n ∧ isId T n x = true := idG_rng n 0 (by omega)
def asV (T : Nat → Nat → Nat) (n : Nat) (R : List (List Int)) (t : Tm) (N : List Nat) : Nat := t.ev T n (idI T n).toNat (fun i => (asgF R N i).toNat)
def RIn (n : Nat) (R : List (List Int)) : Prop := ∀ l ∈ R, ∀ x ∈ l, 0 ≤ x ∧ x < (n : Int)
theorem asgF_mem {R : List (List Int)} {N : List Nat} (h : NOk R N) {i : Nat} (hi : i < R.length) : ∃ l ∈ R, asgF R N i ∈ l := by
 obtain ⟨h1, h2, h3⟩ := h.at hi
 exact ⟨R[i], List.getElem_mem hi, by rw [← h3]; exact List.getElem_mem h2⟩
theorem asg_in {n : Nat} {R : List (List Int)} (hR : RIn n R) {N : List Nat} (h : NOk R N) : VIn n (asg R N) (fun i => (asgF R N i).toNat) := ⟨fun i hi => by
 have hi : i < R.length := by simpa using hi
 obtain ⟨l, hl, hm⟩ := asgF_mem h hi
 have := hR l hl _ hm
 refine ⟨?_, by show (asgF R N i).toNat < n; omega⟩
 unfold asg
 rw [tab_get _ hi]
 congr 1
 omega⟩
theorem hrun_of {T : Nat → Nat → Nat} {n : Nat} (hT : ∀ r c, r < n → c < n → T r c < n) (hA : Assoc n T) {R : List (List Int)} (hR : RIn n R) {a b : Tm} (ha : a.val = true) (hb : b.val = true) (hl : R.length = max a.gr b.gr) (h6 : ¬ (idI T n < 0 ∧ (a.has1 || b.has1) = true)) :
  HRun R T n (idI T n) (useP [a.cmp, b.cmp] zU) a.cmp b.cmp (asV T n R a) (asV T n R b) := by
 have h1 : ∀ t : Tm, (t = a ∨ t = b) → t.has1 = true → idI T n = ((idI T n).toNat : Int) ∧ (idI T n).toNat < n := fun t ht h => by
  have h2 : (a.has1 || b.has1) = true := by rcases ht with rfl | rfl <;> simp [h]
  have h3 : ¬ idI T n < 0 := fun h4 => h6 ⟨h4, h2⟩
  rcases idI_rng T n with h5 | ⟨x, h5, h7, -⟩
  ·omega
  ·omega
 have hca := cmp_len a
 have hcb := cmp_len b
 have hva := (val_ok ha).2
 have hvb := (val_ok hb).2
 refine ⟨by omega, by omega, fun N hN => ?_, fun N hN => ?_⟩
 ·exact (exn_top hT hA (asg_in hR hN) a ha (by rw [asg_len]; omega) (h1 a (.inl rfl)) [a.cmp, b.cmp] (by simp)).2
 ·exact (exn_top hT hA (asg_in hR hN) b hb (by rw [asg_len]; omega) (h1 b (.inr rfl)) [a.cmp, b.cmp] (by simp)).2
theorem rngL_in {T : Nat → Nat → Nat} {n : Nat} {set : List Int} (hr : ∀ i (h : i < set.length), 0 ≤ set[i] ∧ set[i] < (n : Int)) (a b : Tm) : RIn n (rngL T set a b) := fun l hl x hx => by
 unfold rngL tab at hl
 obtain ⟨i, -, rfl⟩ := List.mem_map.1 hl
 unfold rngF at hx
 obtain ⟨k, hk, rfl⟩ := List.getElem_of_mem (List.mem_filter.1 hx).1
 exact hr k hk
theorem rngL_le {T : Nat → Nat → Nat} {set : List Int} (a b : Tm) : ∀ l ∈ rngL T set a b, l.length ≤ set.length := fun l hl => by
 unfold rngL tab at hl
 obtain ⟨i, -, rfl⟩ := List.mem_map.1 hl
 exact List.length_filter_le _ _
theorem zero_ok {R : List (List Int)} (h : empB R = false) : NOk R (List.replicate R.length 0) := by
 refine ⟨by simp, fun i hi => ?_⟩
 have h0 : (List.replicate R.length 0).getD i 0 = 0 := by simp [hi]
 rw [h0]
 have e2 : R.getD i [] = R[i] := by simp [hi]
 rw [e2]
 refine Nat.pos_of_ne_zero fun he => ?_
 have : empB R = true := by
  unfold empB
  rw [List.any_eq_true]
  exact ⟨R[i], List.getElem_mem hi, by simpa using he⟩
 rw [h] at this
 cases this
theorem newHunt_all (tb : List (List Int)) (set : List Int) (a b : Tm) (hs : set.length ≤ 100000) :
  (huErr tb set a b ≠ 0 → FnA Tryz.prog 34 [.t 1 (rows tb), .t 0 (ints set), idV 0 a b] (.tup [.t 2 .nilp, .t 2 (.int .i64 (huErr tb set a b))])) ∧
  (huErr tb set a b = 0 → FnS Tryz.prog 34 [.t 1 (rows tb), .t 0 (ints set), idV 0 a b] [] (.tup [.ptr 0 0 5, .t 2 (.int .i64 0)])
   [huO a.cmp b.cmp (rngL (tabOf tb) set a b) 1 2, mcO tb (tabOf tb) tb.length (idI (tabOf tb) tb.length) (useP [a.cmp, b.cmp] zU), nxO (List.replicate (rngL (tabOf tb) set a b).length 0)]) := by
 refine ⟨fun h => ?_, fun h => ?_⟩
 ·unfold huErr at h ⊢
  by_cases h1 : vErr tb ≠ 0
  ·rw [if_pos h1]; exact newHunt_e1 tb set a b h1
  have v1 : vErr tb = 0 := Decidable.not_not.1 h1
  rw [if_neg h1] at h ⊢
  by_cases h2 : closB (tabOf tb) tb.length set = false
  ·rw [if_pos h2]; exact newHunt_e2 tb set a b hs v1 h2
  rw [if_neg h2] at h ⊢
  have h2' : closB (tabOf tb) tb.length set = true := by simpa using h2
  by_cases h3 : ¬ (a.val = true ∧ b.val = true)
  ·rw [if_pos h3]; exact newHunt_e3 tb set a b hs v1 h2' h3
  rw [if_neg h3] at h ⊢
  by_cases h4 : idI (tabOf tb) tb.length < 0 ∧ (a.has1 || b.has1) = true
  ·rw [if_pos h4]; exact newHunt_e4 tb set a b hs v1 h2' (Decidable.not_not.1 h3) h4.1 h4.2
  rw [if_neg h4] at h
  exact absurd rfl h
 ·obtain ⟨v1, hc, e3, e6⟩ := huErr_0 h
  exact newHunt_ok tb set a b hs v1 hc e3 e6
def vioR (T : Nat → Nat → Nat) (n : Nat) (R : List (List Int)) (a b : Tm) (budget : Nat) : Nat × Bool × Bool × List Nat := runH (asV T n R a) (asV T n R b) R budget 0 (List.replicate R.length 0)
noncomputable def vioP (tb : List (List Int)) (set : List Int) (a b : Tm) (budget : Int) : List Int × Nat × Int :=
 if huErr tb set a b ≠ 0 then ([], 0, huErr tb set a b)
 else if budget < 1 ∨ 1048576 < budget then ([], 0, 1)
 else if empB (rngL (tabOf tb) set a b) = true then ([], 0, 9)
 else if (vioR (tabOf tb) tb.length (rngL (tabOf tb) set a b) a b budget.toNat).2.1 = true then (asg (rngL (tabOf tb) set a b) (vioR (tabOf tb) tb.length (rngL (tabOf tb) set a b) a b budget.toNat).2.2.2, (vioR (tabOf tb) tb.length (rngL (tabOf tb) set a b) a b budget.toNat).1, 0)
 else if (vioR (tabOf tb) tb.length (rngL (tabOf tb) set a b) a b budget.toNat).2.2.1 = true then ([], (vioR (tabOf tb) tb.length (rngL (tabOf tb) set a b) a b budget.toNat).1, 9)
 else ([], 0, 7)
def vioV (x : List Int × Nat × Int) : AV := .tup [.t 2 (ints x.1), .t 2 (.int .i64 (x.2.1 : Nat)), .t 2 (.int .i64 x.2.2)]
def vioA (x : List Int × Nat × Int) : AV := .tup [.t 2 (if x.2.2 = 0 then ints x.1 else .sl 0 []), .t 2 (.int .i64 (x.2.1 : Nat)), .t 2 (.int .i64 x.2.2)]
theorem hempty_fn (pa pb : List (Int × Int)) (R : List (List Int)) (hRl : R.length ≤ 1000) (tb : List (List Int)) (T : Nat → Nat → Nat) (n : Nat) (one : Int) (u : Nat → Bool) (N : List Nat) :
  FnS Tryz.prog 35 [.ptr 0 0 5] [huO pa pb R 1 2, mcO tb T n one u, nxO N] (.t 2 (.bool (empB R))) [huO pa pb R 1 2, mcO tb T n one u, nxO N] := by
 have h1 := empCon_fn R hRl
 refine fn_intro Tryz.func35 rfl (by simp [Tryz.f35]) ?_
 rw [show Tryz.f35.ntmps = 8 from rfl, show Tryz.f35.results = #[.tmp 2] from rfl]
 refine rgS fun K hK => ?_
 simp (disch := omega)
 and_intros <;> try first | apply hK | omega | rfl | simp <;> omega
 refine rgS fun K hK => ?_
 simp (disch := omega) [huO]
 (repeat' apply And.intro)
 all_goals (try omega)
 refine callO (h1) rfl rfl rfl rfl (by kernel_rfl) (by simp) ?_ ?_
 ·simp
 simp (disch := omega)
 and_intros <;> try first | apply hK | omega | rfl | simp <;> omega
 refine awp_ret ?_
 refine ⟨⟨.inr rfl, _, [(0, some 0), (1, some 1), (2, some 2)], (by first | rfl | (simp [huO, mcO, mcC_wk, nxO, pgT]; rfl)), ?_, ?_, ?_, ?_⟩, ?_⟩
 all_goals try simp [huO, mcO, mcC_wk, nxO, pgT]
theorem violated_fn' (tb : List (List Int)) (set : List Int) (a b : Tm) (hs : set.length ≤ 100000) (budget : Int) :
  FnA Tryz.prog 9 [.t 1 (rows tb), .t 0 (ints set), idV 0 a b, .t 2 (.int .i64 budget)] (vioA (vioP tb set a b budget)) := by
 refine fn_intro Tryz.func9 rfl (by simp [Tryz.f9]) ?_
 rw [show Tryz.f9.ntmps = 49 from rfl, show Tryz.f9.results = #[.tmp 8, .tmp 9, .tmp 10] from rfl]
 unfold vioP
 by_cases hE : huErr tb set a b ≠ 0
 ·have hh := (newHunt_all tb set a b hs).1 hE
  rw [if_pos hE]
  unfold vioA
  simp only [if_neg hE]
  generalize huErr tb set a b = er at hE hh ⊢
  have hEb : (er == 0) = false := by simpa using hE
  refine rgS fun K hK => ?_
  simp (disch := omega) [idV]
  and_intros <;> try first | apply hK | omega | rfl | simp <;> omega
  refine rgS fun K hK => ?_
  simp (disch := omega)
  (repeat' apply And.intro)
  all_goals (try omega)
  refine call_rule (caps := []) (hh) [] [] 1 rfl rfl rfl rfl (by kernel_rfl) (by simp) ?_ ?_ (by simp) rfl (by simp) trivial (by simp [idV]) ?_
  ·simp [idV]
  ·trivial
  simp (disch := omega)
  and_intros <;> try first | apply hK | omega | rfl | simp <;> omega
  refine awp_seq ?_
  refine rgS fun K hK => ?_
  simp (disch := omega)
  and_intros <;> try first | apply hK | omega | rfl | simp <;> omega
  refine condT (by simp [hE] <;> omega) ?_
  refine rgS fun K hK => ?_
  simp (disch := omega)
  and_intros <;> try first | apply hK | omega | rfl | simp <;> omega
  refine awp_ret ?_
  refine ⟨⟨.inr rfl, _, [], rfl, trivial, trivial, by simp [idV], ?_⟩, by simp [idV]⟩
  simp [idV]
 have hE0 : huErr tb set a b = 0 := Decidable.not_not.1 hE
 have hh := (newHunt_all tb set a b hs).2 hE0
 obtain ⟨v1, hc, e3, e6⟩ := huErr_0 hE0
 rw [if_neg hE]
 have ht := TbL.of v1
 obtain ⟨hl0, hl4⟩ := vErr_len v1
 have hRl := rngL_len (tabOf tb) set a b
 have hga := gr_6 a (val_ok e3.1).1
 have hgb := gr_6 b (val_ok e3.2).1
 have hH := hrun_of ht.lt (vErr_asc v1) (rngL_in hc.rng a b) e3.1 e3.2 hRl e6
 have hRL := rngL_le (T := tabOf tb) (set := set) a b
 unfold vioR
 generalize rngL (tabOf tb) set a b = R at hh hRl hH hRL ⊢
 generalize useP [a.cmp, b.cmp] zU = U at hh hH ⊢
 generalize asV (tabOf tb) tb.length R a = va at hH ⊢
 generalize asV (tabOf tb) tb.length R b = vb at hH ⊢
 generalize a.cmp = pa at hh hH
 generalize b.cmp = pb at hh hH
 generalize idI (tabOf tb) tb.length = one at hh hH
 refine rgS fun K hK => ?_
 simp (disch := omega) [idV]
 and_intros <;> try first | apply hK | omega | rfl | simp <;> omega
 refine rgS fun K hK => ?_
 simp (disch := omega)
 (repeat' apply And.intro)
 all_goals (try omega)
 refine call_rule (caps := []) (hh) [] [7000000, 7000001, 7000002] 1 rfl rfl rfl rfl (by kernel_rfl) (by simp) ?_ ?_ (by simp) rfl (by simp) ⟨.inl ⟨by omega, by omega⟩, .inl ⟨by omega, by omega⟩, .inl ⟨by omega, by omega⟩, trivial⟩ (by simp [idV, huO, mcO, nxO]) ?_
 ·simp [idV, huO, mcO, nxO]
 ·trivial
 simp (disch := omega) [huO, mcO, mcC_out, nxO]
 and_intros <;> try first | apply hK | omega | rfl | simp <;> omega
 refine awp_seq ?_
 refine rgS fun K hK => ?_
 simp (disch := omega)
 and_intros <;> try first | apply hK | omega | rfl | simp <;> omega
 refine condF (by simp <;> omega) ?_
 refine awp_skip ?_
 show awp _ _ _ _
 refine awp_weak (σ' := mkS [(3, .t 2 (.int .i64 budget)), (11, .ptr 0 0 5)] [(0, huO pa pb R 1 2), (1, mcO tb (tabOf tb) tb.length one U), (2, nxO (List.replicate R.length 0))] 3 49 [.any, .any, .any, .any]) ?_ ?_
 ·refine wk_list [(0, some 7000000), (1, some 7000001), (2, some 7000002)] rfl ?_ ?_ ?_ ?_
  all_goals try simp [huO, mcO, mcC_wk, mcC_out, nxO, pgT]
 refine awp_seq ?_
 by_cases hb1 : budget < 1
 ·rw [if_pos (.inl hb1)]
  refine rgS fun K hK => ?_
  simp (disch := omega) [hb1]
  and_intros <;> try first | apply hK | omega | rfl | simp <;> omega
  refine condT (by simp [hb1] <;> omega) ?_
  refine rgS fun K hK => ?_
  simp (disch := omega)
  and_intros <;> try first | apply hK | omega | rfl | simp <;> omega
  refine awp_ret ?_
  unfold vioA
  refine ⟨⟨.inr rfl, _, [], (by first | rfl | (simp [idV]; rfl)), ?_, ?_, ?_, ?_⟩, ?_⟩
  all_goals try simp [idV]
 by_cases hb2 : 1048576 < budget
 ·rw [if_pos (.inr hb2)]
  refine rgS fun K hK => ?_
  simp (disch := omega) [hb1, hb2]
  and_intros <;> try first | apply hK | omega | rfl | simp <;> omega
  refine condT (by simp [hb2] <;> omega) ?_
  refine rgS fun K hK => ?_
  simp (disch := omega)
  and_intros <;> try first | apply hK | omega | rfl | simp <;> omega
  refine awp_ret ?_
  unfold vioA
  refine ⟨⟨.inr rfl, _, [], (by first | rfl | (simp [idV]; rfl)), ?_, ?_, ?_, ?_⟩, ?_⟩
  all_goals try simp [idV]
 rw [if_neg (by omega)]
 have hEm := hempty_fn pa pb R (by omega) tb (tabOf tb) tb.length one U (List.replicate R.length 0)
 refine rgS fun K hK => ?_
 simp (disch := omega) [hb1, hb2]
 and_intros <;> try first | apply hK | omega | rfl | simp <;> omega
 refine condF (by simp [hb2] <;> omega) ?_
 refine awp_skip ?_
 show awp _ _ _ _
 refine awp_seq ?_
 refine rgS fun K hK => ?_
 simp (disch := omega)
 (repeat' apply And.intro)
 all_goals (try omega)
 refine call_rule (caps := []) (hEm) [0, 1, 2] [0, 7000003, 7000004] 1 rfl rfl rfl rfl (by kernel_rfl) (by simp) ?_ ?_ (by simp) rfl (by simp) ⟨.inr ⟨rfl, 0, _, _, _, _, _, rfl, rfl, (by first | rfl | simp [huO, mcO, mcC_in, mcC_out, nxO, pgT]), rfl, (by first | rfl | simp [huO, mcO, mcC_in, mcC_out, nxO, pgT])⟩, .inl ⟨by omega, by omega⟩, .inl ⟨by omega, by omega⟩, trivial⟩ (by simp [huO, mcO, mcC_in, mcC_out, nxO, pgT]) ?_
 ·simp [huO, mcO, mcC_in, mcC_out, nxO, pgT]
 ·simp [huO, mcO, mcC_in, mcC_out, nxO, pgT]
 simp (disch := omega) [huO, mcO, mcC_out, nxO]
 (repeat' first | apply hK | apply And.intro) <;> try first | omega | rfl | (simp <;> omega)
 cases hem : empB R with
 | true =>
  simp only [↓reduceIte]
  refine condT (by simp [hem] <;> omega) ?_
  refine rgS fun K hK => ?_
  simp (disch := omega)
  and_intros <;> try first | apply hK | omega | rfl | simp <;> omega
  refine awp_ret ?_
  unfold vioA
  refine ⟨⟨.inr rfl, _, [], (by first | rfl | (simp [idV]; rfl)), ?_, ?_, ?_, ?_⟩, ?_⟩
  all_goals try simp [idV]
 | false =>
  simp only [Bool.false_eq_true, ↓reduceIte]
  obtain ⟨lim, rfl⟩ : ∃ lim : Nat, budget = (lim : Int) := ⟨budget.toNat, by omega⟩
  rw [Int.toNat_natCast]
  have hz := zero_ok hem
  have hRun := hrun_fn pa pb R (by omega) (fun l hl => by have := hRL l hl; omega) tb (tabOf tb) tb.length ht (vErr_asc v1) (by omega) one U va vb hH lim (by omega) _ hz
  have hok := (runH_ok (v1 := va) (v2 := vb) lim 0 hz).1
  generalize runH va vb R lim 0 (List.replicate R.length 0) = x at hRun hok ⊢
  obtain ⟨st, fo, dn, M⟩ := x
  simp only at hRun hok ⊢
  have hVa := hvalues_fn pa pb R (by omega) tb (tabOf tb) tb.length one U M hok
  refine condF (by simp [hem] <;> omega) ?_
  refine awp_skip ?_
  show awp _ _ _ _
  refine awp_weak (σ' := mkS [(3, .t 2 (.int .i64 (lim : Nat))), (11, .ptr 0 0 5)] [(0, huO pa pb R 1 2), (1, mcO tb (tabOf tb) tb.length one U), (2, nxO (List.replicate R.length 0))] 3 49 [.any, .any, .any, .any]) ?_ ?_
  ·refine wk_list [(0, some 0), (1, some 7000003), (2, some 7000004)] rfl ?_ ?_ ?_ ?_
   all_goals try simp [huO, mcO, mcC_wk, mcC_out, nxO, pgT]
  refine rgS fun K hK => ?_
  simp (disch := omega)
  (repeat' apply And.intro)
  all_goals (try omega)
  refine call_rule (caps := []) (hRun) [0, 1, 2] [0, 2000003, 2000004] 1 rfl rfl rfl rfl (by kernel_rfl) (by simp) ?_ ?_ (by simp) rfl (by simp) ⟨.inr ⟨rfl, 0, _, _, _, _, _, rfl, rfl, (by first | rfl | simp [huO, mcO, mcC_in, mcC_out, nxO, pgT]), rfl, (by first | rfl | simp [huO, mcO, mcC_in, mcC_out, nxO, pgT])⟩, .inl ⟨by omega, by omega⟩, .inl ⟨by omega, by omega⟩, trivial⟩ (by simp [huO, mcO, mcC_in, mcC_out, nxO, pgT]) ?_
  ·simp [huO, mcO, mcC_in, mcC_out, nxO, pgT]
  ·simp [huO, mcO, mcC_in, mcC_out, nxO, pgT]
  simp (disch := omega) [huO, mcO, mcC_out, nxO]
  and_intros <;> try first | apply hK | omega | rfl | simp <;> omega
  refine awp_weak (σ' := mkS [(11, .ptr 0 0 5), (13, .t 2 (.int .i64 (st : Nat))), (14, .t 2 (.bool fo)), (15, .t 2 (.bool dn))] [(0, huO pa pb R 1 2), (1, mcO tb (tabOf tb) tb.length one U), (2, nxO M)] 3 49 [.any, .any, .any, .any]) ?_ ?_
  ·refine wk_list [(0, some 0), (1, some 2000003), (2, some 2000004)] rfl ?_ ?_ ?_ ?_
   all_goals try simp [huO, mcO, mcC_wk, mcC_out, nxO, pgT]
  refine awp_seq ?_
  refine awp_block ?_
  refine rgS fun K hK => ?_
  simp (disch := omega)
  (repeat' first | apply hK | apply And.intro) <;> try first | omega | rfl | (simp <;> omega)
  cases fo with
  | true =>
   simp only [↓reduceIte]
   refine condT (by simp <;> omega) ?_
   refine rgS fun K hK => ?_
   simp (disch := omega)
   (repeat' apply And.intro)
   all_goals (try omega)
   refine call_rule (caps := []) (hVa) [0, 1, 2] [0, 3000003, 3000004, 3000005] 1 rfl rfl rfl rfl (by kernel_rfl) (by simp) ?_ ?_ (by simp) rfl (by simp) ⟨.inr ⟨rfl, 0, _, _, _, _, _, rfl, rfl, (by first | rfl | simp [huO, mcO, mcC_in, mcC_out, nxO, pgT, vaO]), rfl, (by first | rfl | simp [huO, mcO, mcC_in, mcC_out, nxO, pgT, vaO])⟩, .inl ⟨by omega, by omega⟩, .inl ⟨by omega, by omega⟩, .inl ⟨by omega, by omega⟩, trivial⟩ (by simp [huO, mcO, mcC_in, mcC_out, nxO, pgT, vaO]) ?_
   ·simp [huO, mcO, mcC_in, mcC_out, nxO, pgT, vaO]
   ·simp [huO, mcO, mcC_in, mcC_out, nxO, pgT, vaO]
   simp (disch := omega) [huO, mcO, mcC_out, nxO, vaO]
   and_intros <;> try first | apply hK | omega | rfl | simp <;> omega
   refine awp_ret ?_
   unfold vioA
   refine ⟨⟨.inr rfl, _, [], (by first | rfl | (simp [idV, asg, tab_map]; rfl)), ?_, ?_, ?_, ?_⟩, ?_⟩
   all_goals try simp [idV, asg, tab_map]
  | false =>
   simp only [Bool.false_eq_true, ↓reduceIte]
   refine condF (by simp <;> omega) ?_
   refine rgS fun K hK => ?_
   simp (disch := omega)
   (repeat' first | apply hK | apply And.intro) <;> try first | omega | rfl | (simp <;> omega)
   cases dn with
   | true =>
    simp only [↓reduceIte]
    refine condT (by simp <;> omega) ?_
    refine rgS fun K hK => ?_
    simp (disch := omega)
    and_intros <;> try first | apply hK | omega | rfl | simp <;> omega
    refine awp_ret ?_
    unfold vioA
    refine ⟨⟨.inr rfl, _, [], (by first | rfl | (simp [idV]; rfl)), ?_, ?_, ?_, ?_⟩, ?_⟩
    all_goals try simp [idV]
   | false =>
    simp only [Bool.false_eq_true, ↓reduceIte]
    refine condF (by simp <;> omega) ?_
    refine awp_skip ?_
    show awp _ _ _ _
    refine rgS fun K hK => ?_
    simp (disch := omega)
    and_intros <;> try first | apply hK | omega | rfl | simp <;> omega
    refine awp_ret ?_
    unfold vioA
    refine ⟨⟨.inr rfl, _, [], (by first | rfl | (simp [idV]; rfl)), ?_, ?_, ?_, ?_⟩, ?_⟩
    all_goals try simp [idV]
theorem vioP_err {tb : List (List Int)} {set : List Int} {a b : Tm} {budget : Int} (h : (vioP tb set a b budget).2.2 ≠ 0) : (vioP tb set a b budget).1 = [] := by
 unfold vioP at h ⊢
 by_cases h1 : huErr tb set a b ≠ 0
 ·rw [if_pos h1]
 rw [if_neg h1] at h ⊢
 by_cases h2 : budget < 1 ∨ 1048576 < budget
 ·rw [if_pos h2]
 rw [if_neg h2] at h ⊢
 by_cases h3 : empB (rngL (tabOf tb) set a b) = true
 ·rw [if_pos h3]
 rw [if_neg h3] at h ⊢
 by_cases h4 : (vioR (tabOf tb) tb.length (rngL (tabOf tb) set a b) a b budget.toNat).2.1 = true
 ·rw [if_pos h4] at h; exact absurd rfl h
 rw [if_neg h4]
 split <;> rfl
theorem violated_fn (tb : List (List Int)) (set : List Int) (a b : Tm) (hs : set.length ≤ 100000) (budget : Int) :
  FnA Tryz.prog 9 [.t 1 (rows tb), .t 0 (ints set), idV 0 a b, .t 2 (.int .i64 budget)] (vioV (vioP tb set a b budget)) :=
 FnS.res' (violated_fn' tb set a b hs budget) fun E v h => h.upT ⟨fun E v h => by
  by_cases e : (vioP tb set a b budget).2.2 = 0
  ·rw [if_pos e] at h; exact h
  ·rw [if_neg e] at h; rw [vioP_err e]; exact h.nil3 1, fun _ _ h => h, fun _ _ h => h, trivial⟩

set_option maxRecDepth 100000
set_option maxHeartbeats 32000000
attribute [local simp] ints rows scal wr64 wr8
set_option linter.unusedSimpArgs false

theorem wkT_nil {H : Nat → Option AObj} {un : Nat → Prop} {q : Nat} : wkT H un q [] [] = True := eq_true ⟨rfl, fun j x y hx _ => by simp at hx⟩
theorem wkT_cons {H : Nat → Option AObj} {un : Nat → Prop} {q : Nat} {a : AV} {t : T} {bs : List AV} {ts : List T} : wkT H un q (a :: bs) (t :: ts) = (wk1 H un q a t ∧ wkT H un q bs ts) := by
 apply propext
 constructor
 ·intro h
  exact ⟨h.2 0 a t rfl rfl, by simpa using h.1, fun j x y hx hy => h.2 (j + 1) x y (by simpa using hx) (by simpa using hy)⟩
 ·rintro ⟨h1, h2⟩
  refine ⟨by simpa using h2.1, fun j x y hx hy => ?_⟩
  cases j with
  | zero => simp at hx hy; subst hx hy; exact h1
  | succ j => exact h2.2 j x y (by simpa using hx) (by simpa using hy)
def z2 : List (List Int) := [[0, 1], [1, 0]]
def kT : Tm := .mk 4 0 [.mk 3 0 [.mk 2 0 [], .mk 2 1 []]]
def kA : Tm := .mk 4 1 [.mk 2 0 []]
def kB : Tm := .mk 4 0 [.mk 2 0 []]
def kC : Tm := .mk 3 0 [.mk 2 0 [], .mk 2 1 []]
def kD : Tm := .mk 3 0 [.mk 2 1 [], .mk 2 0 []]
theorem kn_p1 : parP ⟨#[40, 32, 120, 32, 121, 32, 41, 32, 94, 119]⟩ = (kT, -1, 0) := by kernel_rfl
theorem kn_p2 : parI ⟨#[120, 94, 40, 119, 43, 49, 41, 32, 61, 32, 120, 94, 119]⟩ = (kA, kB, -1, 0) := by kernel_rfl
theorem kn_p3 : parI ⟨#[120, 121, 32, 61, 32, 121, 120]⟩ = (kC, kD, -1, 0) := by kernel_rfl
theorem kn_f : fmtS kT = ⟨#[40, 120, 121, 41, 94, 119]⟩ := by kernel_rfl
theorem kn_row : ∀ r, r < lnx z2 → rowOk z2 r := by
 intro r hr
 have hr : r < 2 := hr
 rcases (by omega : r = 0 ∨ r = 1) with rfl | rfl
 all_goals
  refine ⟨rfl, fun i hi => ?_⟩
  have hi : i < 2 := hi
  rcases (by omega : i = 0 ∨ i = 1) with rfl | rfl <;> exact ⟨by decide, by decide⟩
theorem kn_v : vErr z2 = 0 := vErr_ok (shape_good (by decide) (by decide) kn_row) (by
 intro a b c ha hb hc
 have ha : a < 2 := ha
 have hb : b < 2 := hb
 have hc : c < 2 := hc
 rcases (by omega : a = 0 ∨ a = 1) with rfl | rfl <;> rcases (by omega : b = 0 ∨ b = 1) with rfl | rfl <;> rcases (by omega : c = 0 ∨ c = 1) with rfl | rfl <;> rfl)
theorem kn_c : ClosP (tabOf z2) 2 [0, 1] := by
 refine ⟨fun i h => ?_, fun i h => ?_, fun x hx y hy => ?_⟩
 ·have h : i < 2 := h
  rcases (by omega : i = 0 ∨ i = 1) with rfl | rfl <;> exact ⟨by simp, by simp⟩
 ·have h : i + 1 < 2 := h
  obtain rfl : i = 0 := by omega
  simp
 ·simp at hx hy
  rcases hx with rfl | rfl <;> rcases hy with rfl | rfl <;> decide
theorem huErr_ok {tb : List (List Int)} {set : List Int} {a b : Tm} (v1 : vErr tb = 0) (hc : ClosP (tabOf tb) tb.length set) (e3 : a.val = true ∧ b.val = true) (e6 : ¬ (idI (tabOf tb) tb.length < 0 ∧ (a.has1 || b.has1) = true)) : huErr tb set a b = 0 := by
 unfold huErr
 rw [if_neg (by simp [v1]), if_neg (by rw [closB_t hc]; simp), if_neg (by simp [e3.1, e3.2]), if_neg e6]
theorem kn_1 : vioP z2 [0, 1] kA kB 10 = ([1], 2, 0) := by
 have h0 : huErr z2 [0, 1] kA kB = 0 := huErr_ok kn_v kn_c ⟨by kernel_rfl, by kernel_rfl⟩ (fun h => absurd h.2 (by decide +kernel))
 unfold vioP
 rw [if_neg (show ¬ huErr z2 [0, 1] kA kB ≠ 0 by simp [h0]), if_neg (show ¬ ((10 : Int) < 1 ∨ 1048576 < (10 : Int)) by omega)]
 show _ = _
 kernel_rfl
theorem kn_2 : vioP z2 [0, 1] kC kD 10 = ([], 4, 9) := by
 have h0 : huErr z2 [0, 1] kC kD = 0 := huErr_ok kn_v kn_c ⟨by kernel_rfl, by kernel_rfl⟩ (fun h => absurd h.2 (by decide +kernel))
 unfold vioP
 rw [if_neg (show ¬ huErr z2 [0, 1] kC kD ≠ 0 by simp [h0]), if_neg (show ¬ ((10 : Int) < 1 ∨ 1048576 < (10 : Int)) by omega)]
 show _ = _
 kernel_rfl
theorem known28_fn : FnA Tryz.prog 12 [] (.t 2 (.bool true)) := by
 have hP := parse_fn ⟨#[40, 32, 120, 32, 121, 32, 41, 32, 94, 119]⟩ (by decide +kernel)
 rw [kn_p1] at hP
 have hI1 := parseId_fn ⟨#[120, 94, 40, 119, 43, 49, 41, 32, 61, 32, 120, 94, 119]⟩ (by decide +kernel)
 rw [kn_p2] at hI1
 have hI2 := parseId_fn ⟨#[120, 121, 32, 61, 32, 121, 120]⟩ (by decide +kernel)
 rw [kn_p3] at hI2
 have hV1 := violated_fn z2 [0, 1] kA kB (by simp) 10
 rw [kn_1] at hV1
 have hV2 := violated_fn z2 [0, 1] kC kD (by simp) 10
 rw [kn_2] at hV2
 have hF := format_fn kT
 rw [kn_f] at hF
 have hS := same_fn [1] [1] (by simp)
 rw [decide_eq_true rfl] at hS
 refine fn_intro Tryz.func12 rfl (by simp [Tryz.f12]) ?_
 rw [show Tryz.f12.ntmps = 91 from rfl, show Tryz.f12.results = #[.tmp 0] from rfl]
 refine rgS fun K hK => ?_
 simp (disch := omega)
 and_intros <;> try first | apply hK | omega | rfl | simp <;> omega
 refine rgS fun K hK => ?_
 simp (disch := omega)
 (repeat' apply And.intro)
 all_goals (try omega)
 refine callO (hP) rfl rfl rfl rfl (by kernel_rfl) (by simp) ?_ ?_
 ·simp [parV]
 simp (disch := omega) [parV, tmV, tsTerm]
 and_intros <;> try first | apply hK | omega | rfl | simp <;> omega
 refine awp_weak (σ' := mkS [(1, .ptr 0 0 3), (2, .t 2 (.int .i64 (-1))), (3, .t 2 (.int .i64 0))] [(0, tmO kT)] 1 91 []) ?_ ?_
 ·refine wk_list [(0, some 6000000)] rfl ?_ ?_ ?_ ?_
  all_goals try simp [tmO, tsTerm]
 refine rgS fun K hK => ?_
 simp (disch := omega) [rng_2]
 and_intros <;> try first | apply hK | omega | rfl | simp <;> omega
 refine awp_weak (σ' := mkS [(1, .ptr 0 0 3), (2, .t 2 (.int .i64 (-1))), (3, .t 2 (.int .i64 0)), (4, .t 2 (rows z2))] [(0, tmO kT)] 1 91 []) ?_ ?_
 ·refine wk_list [(0, some 0)] rfl ?_ ?_ ?_ ?_
  all_goals try simp [tmO, z2, wkT_cons, wkT_nil, wk1]
 refine rgS fun K hK => ?_
 simp (disch := omega)
 (repeat' apply And.intro)
 all_goals (try omega)
 refine callO (hI1) rfl rfl rfl rfl (by kernel_rfl) (by simp) ?_ ?_
 ·simp [pidV]
 simp (disch := omega) [pidV, idV, tsIdent]
 and_intros <;> try first | apply hK | omega | rfl | simp <;> omega
 refine awp_weak (σ' := mkS [(1, .ptr 0 0 3), (2, .t 2 (.int .i64 (-1))), (3, .t 2 (.int .i64 0)), (4, .t 2 (rows z2)), (5, .ptr 1 0 6), (7, .t 2 (.int .i64 0))] [(0, tmO kT), (1, ibO kA kB)] 2 91 []) ?_ ?_
 ·refine wk_list [(0, some 0), (1, some 5000001)] rfl ?_ ?_ ?_ ?_
  all_goals try simp [tmO, ibO]
 refine rgS fun K hK => ?_
 simp (disch := omega)
 (repeat' apply And.intro)
 all_goals (try omega)
 refine callO (hI2) rfl rfl rfl rfl (by kernel_rfl) (by simp) ?_ ?_
 ·simp [pidV]
 simp (disch := omega) [pidV, idV, tsIdent]
 and_intros <;> try first | apply hK | omega | rfl | simp <;> omega
 refine awp_weak (σ' := mkS [(1, .ptr 0 0 3), (2, .t 2 (.int .i64 (-1))), (3, .t 2 (.int .i64 0)), (4, .t 2 (rows z2)), (5, .ptr 1 0 6), (7, .t 2 (.int .i64 0)), (8, .ptr 2 0 6), (10, .t 2 (.int .i64 0))] [(0, tmO kT), (1, ibO kA kB), (2, ibO kC kD)] 3 91 []) ?_ ?_
 ·refine wk_list [(0, some 0), (1, some 1), (2, some 5000002)] rfl ?_ ?_ ?_ ?_
  all_goals try simp [tmO, ibO]
 refine rgS fun K hK => ?_
 simp (disch := omega) [ibO, tsIdent, rng_2]
 (repeat' apply And.intro)
 all_goals (try omega)
 refine callO (hV1) rfl rfl rfl rfl (by kernel_rfl) (by simp) ?_ ?_
 ·simp [idV]
 simp (disch := omega) [vioV]
 and_intros <;> try first | apply hK | omega | rfl | simp <;> omega
 refine rgS fun K hK => ?_
 simp (disch := omega) [ibO, tsIdent, rng_2]
 (repeat' apply And.intro)
 all_goals (try omega)
 refine callO (hV2) rfl rfl rfl rfl (by kernel_rfl) (by simp) ?_ ?_
 ·simp [idV]
 simp (disch := omega) [vioV]
 and_intros <;> try first | apply hK | omega | rfl | simp <;> omega
 refine rgS fun K hK => ?_
 simp (disch := omega) [tmO, tsTerm]
 (repeat' apply And.intro)
 all_goals (try omega)
 refine callO (hF) (by simp [tmV]) rfl rfl rfl (by kernel_rfl) (by simp) ?_ ?_
 ·simp [tmV]
 simp (disch := omega) [tmO, tsTerm]
 (repeat' apply And.intro)
 all_goals (try omega)
 refine callO (hS) (by simp) rfl rfl rfl (by kernel_rfl) (by simp) ?_ ?_
 ·simp
 simp (disch := omega)
 and_intros <;> try first | apply hK | omega | rfl | simp <;> omega
 refine awp_ret ?_
 refine ⟨⟨.inr rfl, _, [], rfl, trivial, trivial, by simp, ?_⟩, by simp⟩
 simp
end Go.Proofs.YtghnmmfkckneaaaGreat.M
