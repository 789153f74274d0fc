/-
  Walk in my logic: visits of the nodes of a term (omega.visit) with a function value that has captured one or two variables.
  Walks in my logic: variables of terms, TermOne in terms (omega).
  Walks in my logic: validity and identity of tables (mult), Value (omega).
  Walks in my logic: closed sets, empty ranges (omega).
  Walk in my logic: the ranges of the variables (omega.rangesOf).
  Walk in my logic: the beginning of a search (omega.newHunt).
  Walks in my logic: the steps of a search (omega: values, advance, run).
  The order of the assignments that a search tries (layer 28, plain Lean).
  Walk in my logic: Less of the reference of layer 3.
-/
import Derived.Test.YtghnmmfkckneaaaGreatZlap
import Derived.Test.YtghnmmfkckneaaaGreatZlam
namespace Go.Proofs.YtghnmmfkckneaaaGreat.M
open Go.RowKit
set_option linter.unusedVariables false
set_option linter.unusedSimpArgs false

mutual
def Tm.vis {S : Type} (step : S → Int × Int → Int × Int → S) : S → Int × Int → Tm → S
 | s, a, .mk o n l => visL step (step s (o, n) a) (o, n) l
def visL {S : Type} (step : S → Int × Int → Int × Int → S) : S → Int × Int → List Tm → S
 | s, a, [] => s
 | s, a, t :: l => visL step (t.vis step s a) a l
end
theorem vis_eq {S : Type} (step : S → Int × Int → Int × Int → S) (s : S) (a : Int × Int) (t : Tm) : t.vis step s a = visL step (step s (t.op, t.n) a) (t.op, t.n) t.args := by
 obtain ⟨o, n, l⟩ := t
 rw [Tm.vis]
 rfl
theorem visL_app {S : Type} (step : S → Int × Int → Int × Int → S) : ∀ (l r : List Tm) (s : S) (a : Int × Int), visL step s a (l ++ r) = visL step (visL step s a l) a r
 | [], r, s, a => by rw [List.nil_append, visL]
 | t :: l, r, s, a => by rw [List.cons_append, visL, visL, visL_app step l r]
theorem take_vis {S : Type} (step : S → Int × Int → Int × Int → S) (s : S) (a : Int × Int) {l : List Tm} {k : Nat} (h : k < l.length) : visL step s a (l.take (k + 1)) = l[k].vis step (visL step s a (l.take k)) a := by
 rw [List.take_succ_eq_append_getElem h, visL_app, visL, visL]
def abV (a : Int × Int) : AV := .agg [.t 2 (.int .i64 a.1), .t 2 (.int .i64 a.2), .any]
def scC (l : List T) : List AV := l.map (.t 2)
@[simp] theorem scC_len (l : List T) : (scC l).length = l.length := by simp [scC]
def bxO (ty : Nat) (l : List T) : AObj := .box ty (scC l)
theorem scC_in {H : Nat → Option AObj} {pi : List Nat} {q : Nat} : ∀ {l : List T}, (∀ x ∈ l, scal x = true) → inPs H pi q (scC l) (scC l) = True
 | [], _ => rfl
 | x :: l, h => eq_true ⟨⟨rfl, .inl (h x (by simp))⟩, of_eq_true (scC_in (l := l) fun y hy => h y (by simp [hy]))⟩
theorem scC_out {po : List Nat} {q : Nat} : ∀ {l : List T}, (∀ x ∈ l, scal x = true) → outVs po q (scC l) = scC l
 | [], _ => rfl
 | x :: l, h => by
  show outV po q (.t 2 x) :: outVs po q (scC l) = .t 2 x :: scC l
  rw [scC_out (fun y hy => h y (by simp [hy]))]
  simp
theorem scC_wk {H : Nat → Option AObj} {m : Nat → Option Nat} {un : Nat → Prop} {nx : Nat} : ∀ (l : List T), wkPs H m un nx (scC l) (scC l) = True
 | [] => rfl
 | x :: l => eq_true ⟨⟨rfl, Nat.le_refl _⟩, of_eq_true (scC_wk l)⟩

set_option maxRecDepth 100000 in
set_option maxHeartbeats 16000000 in
theorem visit1_fn {S : Type} {L0 : S → List T} {ty0 c0 : Nat} {F : FuncId} (hF : bodied Tryz.prog F = true) (step : S → Int × Int → Int × Int → S) (hs0 : ∀ s, ∀ x ∈ L0 s, scal x = true) (hc0 : ∀ s, (L0 s).length = c0)
  (h : ∀ (s : S) (t : Tm) (a : Int × Int), t.ok = true → FnS Tryz.prog F [tmV 0 t, abV a, .ptr 0 0 c0] [bxO ty0 (L0 s)] (.tup []) [bxO ty0 (L0 (step s (t.op, t.n) a))]) :
  ∀ (t : Tm) (s : S) (a : Int × Int), t.ok = true → t.sz ≤ 1000 → FnK Tryz.prog 83 [tmV 0 t, abV a, .fn F [.ptr 0 0 c0]] [bxO ty0 (L0 s)] (.tup []) [bxO ty0 (L0 (t.vis step s a))] (List.range 1) := by
 have hi0 : ∀ (H : Nat → Option AObj) (pi : List Nat) (q : Nat) (s : S), inPs H pi q (scC (L0 s)) (scC (L0 s)) = True := fun H pi q s => scC_in (hs0 s)
 have ho0 : ∀ (po : List Nat) (q : Nat) (s : S), outVs po q (scC (L0 s)) = scC (L0 s) := fun po q s => scC_out (hs0 s)
 have hw0 : ∀ (H : Nat → Option AObj) (m : Nat → Option Nat) (un : Nat → Prop) (nx : Nat) (s : S), wkPs H m un nx (scC (L0 s)) (scC (L0 s)) = True := fun H m un nx s => scC_wk (L0 s)
 intro t
 induction hsz : t.sz using Nat.strongRecOn generalizing t with
 | _ q ih =>
 intro s a ho hq
 have hokl : okL' t.args = true := by rw [ok_eq, Bool.and_eq_true] at ho; exact ho.2
 have hF1 := h s t a ho
 have hsl := szL_ge t.args
 have hse := sz_eq t
 rw [vis_eq]
 refine fn_introKB 1 (fun _ => c0) (fun k hk => by
  obtain rfl : k = 0 := by omega
  exact ⟨_, _, rfl, by simp [hc0]⟩) (fun k hk => by
  obtain rfl : k = 0 := by omega
  exact ⟨_, _, rfl, by simp [hc0]⟩) Tryz.func83 rfl (by simp [Tryz.f83]) ?_
 rw [show Tryz.f83.ntmps = 24 from rfl, show Tryz.f83.results = #[] from rfl]
 generalize step s (t.op, t.n) a = s1 at hF1 ⊢
 refine awp_seqR fun K hK => ?_
 simp (disch := omega) [ints, rows, scal, wr64, wr8, tmV, abV]
 and_intros <;> try first | apply hK | omega | rfl | simp <;> omega
 refine awp_seqR fun K hK => ?_
 simp (disch := omega) [ints, rows, scal, wr64, wr8, tsTerm]
 (repeat' apply And.intro)
 all_goals (try omega)
 refine call_rule (caps := [.ptr 0 0 c0]) (hF1) [0] [0] 1 rfl rfl rfl (by simp) (by first | assumption | kernel_rfl) (by simp) ?_ ?_ (by simp) rfl (by simp) ⟨.inr ⟨rfl, 2, _, _, _, _, _, rfl, rfl, (by first | rfl | simp [tmV, abV, bxO, hi0, ho0, hw0, hc0]), rfl, (by first | rfl | simp [tmV, abV, bxO, hi0, ho0, hw0, hc0])⟩, trivial⟩ (by simp [tmV, abV, bxO, hi0, ho0, hw0, hc0]) ?_
 ·simp [scal, rows, ints, tmV, abV, bxO, hi0, ho0, hw0, hc0]
 ·simp [scal, rows, ints, tmV, abV, bxO, hi0, ho0, hw0, hc0]
 simp (disch := omega) [ints, rows, scal, wr64, wr8, bxO, hi0, ho0, hw0, hc0]
 and_intros <;> try first | apply hK | omega | rfl | simp <;> omega
 refine awp_seqR fun K hK => ?_
 simp (disch := omega) [ints, rows, scal, wr64, wr8]
 and_intros <;> try first | apply hK | omega | rfl | simp <;> omega
 refine awp_block ?_
 refine awp_loop (fun k : Nat => mkS [(2, .fn F [.ptr 0 0 c0]), (3, .ptr 1 0 3), (13, .t 0 (.sl 3 (cellsL t.args))), (14, .t 2 (.int .i64 t.args.length)), (15, .t 2 (.int .i64 k))] [(0, bxO ty0 (L0 (visL step s1 (t.op, t.n) (t.args.take k)))), (1, teO t)] 2 24 [.any, .any, .any, .ptr 0 0 c0]) (fun k => k ≤ t.args.length) (fun k => t.args.length - k) ?_ ?_
 ·refine ⟨0, by omega, ?_⟩
  rw [show visL step s1 (t.op, t.n) (t.args.take 0) = s1 from by rw [List.take_zero, visL]]
  refine wk_list [(0, some 0), (1, some 1)] rfl ?_ ?_ ?_ ?_
  all_goals try simp [ints, teO, bxO, tmV, ghB, List.range_succ, hi0, ho0, hw0, hc0]
 intro k hk
 refine awp_seqR fun K hK => ?_
 simp (disch := omega) [ints, rows, scal, wr64, wr8]
 and_intros <;> try first | apply hK | omega | rfl | simp <;> omega
 refine awp_seq ?_
 by_cases hkl : k < t.args.length
 ·obtain ⟨b, hb⟩ : ∃ b, b = t.args[k] := ⟨_, rfl⟩
  have hcut := cellsL_cut t.args k hkl
  rw [← hb, Tm.cells_eq] at hcut
  have ham : b ∈ t.args := by rw [hb]; exact List.getElem_mem hkl
  have hlt := sz_arg ham
  have htv := take_vis step s1 (t.op, t.n) hkl
  rw [← hb] at htv
  have hA := ih b.sz (by omega) b rfl (visL step s1 (t.op, t.n) (t.args.take k)) (t.op, t.n) (okL'_all.1 hokl b ham) (by omega)
  rw [← htv] at hA
  refine awp_cond (b := true) (p := 2) (by simp [scal, hkl] <;> omega) ?_
  refine awp_skip ?_
  show awp _ _ _ _
  refine awp_seq ?_
  refine awp_block ?_
  refine awp_seqR fun K hK => ?_
  simp (disch := omega) [ints, rows, scal, wr64, wr8, hcut, hkl, teO]
  and_intros <;> try first | apply hK | omega | rfl | simp <;> omega
  refine awp_R fun K hK => ?_
  simp (disch := omega) [ints, rows, scal, wr64, wr8, teO]
  (repeat' apply And.intro)
  all_goals (try omega)
  refine call_ruleK (caps := []) (hA) [0] [0] 1 rfl rfl rfl rfl (by kernel_rfl) (by simp) ?_ ?_ (by simp) rfl (by simp) ⟨.inr (.inr ⟨rfl, by simp, by simp⟩), trivial⟩ (by simp [tmV, abV, bxO, teO, hi0, ho0, hw0, hc0]) ?_
  ·simp [scal, rows, ints, tmV, abV, bxO, teO, hi0, ho0, hw0, hc0]
  ·simp [scal, rows, ints, tmV, abV, bxO, teO, hi0, ho0, hw0, hc0]
  simp (disch := omega) [ints, rows, scal, wr64, wr8, teO, bxO, hi0, ho0, hw0, hc0]
  and_intros <;> try first | apply hK | omega | rfl | simp <;> omega
  show awp _ _ _ _
  refine awp_R fun K hK => ?_
  simp (disch := omega) [ints, rows, scal, wr64, wr8]
  (repeat' first | apply hK | apply And.intro) <;> try first | omega | rfl | (simp <;> omega)
  refine ⟨k + 1, by omega, by omega, ?_⟩
  refine wk_list [(0, some 0), (1, some 1)] rfl ?_ ?_ ?_ ?_
  all_goals try simp [ints, teO, bxO, hi0, ho0, hw0, hc0]
 ·obtain rfl : k = t.args.length := by omega
  rw [List.take_length]
  refine awp_cond (b := false) (p := 2) (by simp [scal] <;> omega) ?_
  refine awp_exit ?_
  refine ⟨⟨.inl rfl, _, [(0, some 0)], rfl, ?_, ?_, ?_, ?_⟩, ?_⟩
  all_goals simp [bxO, ghB, List.range_succ, tmV, abV, hi0, ho0, hw0, hc0]


set_option maxRecDepth 100000 in
set_option maxHeartbeats 16000000 in
theorem visit2_fn {S : Type} {L0 : S → List T} {L1 : S → List T} {ty0 c0 : Nat} {ty1 c1 : Nat} {F : FuncId} (hF : bodied Tryz.prog F = true) (step : S → Int × Int → Int × Int → S) (hs0 : ∀ s, ∀ x ∈ L0 s, scal x = true) (hc0 : ∀ s, (L0 s).length = c0) (hs1 : ∀ s, ∀ x ∈ L1 s, scal x = true) (hc1 : ∀ s, (L1 s).length = c1)
  (h : ∀ (s : S) (t : Tm) (a : Int × Int), t.ok = true → FnS Tryz.prog F [tmV 0 t, abV a, .ptr 0 0 c0, .ptr 1 0 c1] [bxO ty0 (L0 s), bxO ty1 (L1 s)] (.tup []) [bxO ty0 (L0 (step s (t.op, t.n) a)), bxO ty1 (L1 (step s (t.op, t.n) a))]) :
  ∀ (t : Tm) (s : S) (a : Int × Int), t.ok = true → t.sz ≤ 1000 → FnK Tryz.prog 83 [tmV 0 t, abV a, .fn F [.ptr 0 0 c0, .ptr 1 0 c1]] [bxO ty0 (L0 s), bxO ty1 (L1 s)] (.tup []) [bxO ty0 (L0 (t.vis step s a)), bxO ty1 (L1 (t.vis step s a))] (List.range 2) := by
 have hi0 : ∀ (H : Nat → Option AObj) (pi : List Nat) (q : Nat) (s : S), inPs H pi q (scC (L0 s)) (scC (L0 s)) = True := fun H pi q s => scC_in (hs0 s)
 have ho0 : ∀ (po : List Nat) (q : Nat) (s : S), outVs po q (scC (L0 s)) = scC (L0 s) := fun po q s => scC_out (hs0 s)
 have hw0 : ∀ (H : Nat → Option AObj) (m : Nat → Option Nat) (un : Nat → Prop) (nx : Nat) (s : S), wkPs H m un nx (scC (L0 s)) (scC (L0 s)) = True := fun H m un nx s => scC_wk (L0 s)
 have hi1 : ∀ (H : Nat → Option AObj) (pi : List Nat) (q : Nat) (s : S), inPs H pi q (scC (L1 s)) (scC (L1 s)) = True := fun H pi q s => scC_in (hs1 s)
 have ho1 : ∀ (po : List Nat) (q : Nat) (s : S), outVs po q (scC (L1 s)) = scC (L1 s) := fun po q s => scC_out (hs1 s)
 have hw1 : ∀ (H : Nat → Option AObj) (m : Nat → Option Nat) (un : Nat → Prop) (nx : Nat) (s : S), wkPs H m un nx (scC (L1 s)) (scC (L1 s)) = True := fun H m un nx s => scC_wk (L1 s)
 intro t
 induction hsz : t.sz using Nat.strongRecOn generalizing t with
 | _ q ih =>
 intro s a ho hq
 have hokl : okL' t.args = true := by rw [ok_eq, Bool.and_eq_true] at ho; exact ho.2
 have hF1 := h s t a ho
 have hsl := szL_ge t.args
 have hse := sz_eq t
 rw [vis_eq]
 refine fn_introKB 2 (fun k => if k = 0 then c0 else c1) (fun k hk => by
  rcases (by omega : k = 0 ∨ k = 1) with rfl | rfl
  ·exact ⟨_, _, rfl, by simp [hc0]⟩
  ·exact ⟨_, _, rfl, by simp [hc1]⟩) (fun k hk => by
  rcases (by omega : k = 0 ∨ k = 1) with rfl | rfl
  ·exact ⟨_, _, rfl, by simp [hc0]⟩
  ·exact ⟨_, _, rfl, by simp [hc1]⟩) Tryz.func83 rfl (by simp [Tryz.f83]) ?_
 rw [show Tryz.f83.ntmps = 24 from rfl, show Tryz.f83.results = #[] from rfl]
 generalize step s (t.op, t.n) a = s1 at hF1 ⊢
 refine awp_seqR fun K hK => ?_
 simp (disch := omega) [ints, rows, scal, wr64, wr8, tmV, abV]
 and_intros <;> try first | apply hK | omega | rfl | simp <;> omega
 refine awp_seqR fun K hK => ?_
 simp (disch := omega) [ints, rows, scal, wr64, wr8, tsTerm]
 (repeat' apply And.intro)
 all_goals (try omega)
 refine call_rule (caps := [.ptr 0 0 c0, .ptr 1 0 c1]) (hF1) [0, 1] [0, 1] 1 rfl rfl rfl (by simp) (by first | assumption | kernel_rfl) (by simp) ?_ ?_ (by simp) rfl (by simp) ⟨.inr ⟨rfl, 2, _, _, _, _, _, rfl, rfl, (by first | rfl | simp [tmV, abV, bxO, hi0, ho0, hw0, hc0, hi1, ho1, hw1, hc1]), rfl, (by first | rfl | simp [tmV, abV, bxO, hi0, ho0, hw0, hc0, hi1, ho1, hw1, hc1])⟩, .inr ⟨rfl, 3, _, _, _, _, _, rfl, rfl, (by first | rfl | simp [tmV, abV, bxO, hi0, ho0, hw0, hc0, hi1, ho1, hw1, hc1]), rfl, (by first | rfl | simp [tmV, abV, bxO, hi0, ho0, hw0, hc0, hi1, ho1, hw1, hc1])⟩, trivial⟩ (by simp [tmV, abV, bxO, hi0, ho0, hw0, hc0, hi1, ho1, hw1, hc1]) ?_
 ·simp [scal, rows, ints, tmV, abV, bxO, hi0, ho0, hw0, hc0, hi1, ho1, hw1, hc1]
 ·simp [scal, rows, ints, tmV, abV, bxO, hi0, ho0, hw0, hc0, hi1, ho1, hw1, hc1]
 simp (disch := omega) [ints, rows, scal, wr64, wr8, bxO, hi0, ho0, hw0, hc0, hi1, ho1, hw1, hc1]
 and_intros <;> try first | apply hK | omega | rfl | simp <;> omega
 refine awp_seqR fun K hK => ?_
 simp (disch := omega) [ints, rows, scal, wr64, wr8]
 and_intros <;> try first | apply hK | omega | rfl | simp <;> omega
 refine awp_block ?_
 refine awp_loop (fun k : Nat => mkS [(2, .fn F [.ptr 0 0 c0, .ptr 1 0 c1]), (3, .ptr 2 0 3), (13, .t 0 (.sl 3 (cellsL t.args))), (14, .t 2 (.int .i64 t.args.length)), (15, .t 2 (.int .i64 k))] [(0, bxO ty0 (L0 (visL step s1 (t.op, t.n) (t.args.take k)))), (1, bxO ty1 (L1 (visL step s1 (t.op, t.n) (t.args.take k)))), (2, teO t)] 3 24 [.any, .any, .any, .ptr 0 0 c0, .ptr 1 0 c1]) (fun k => k ≤ t.args.length) (fun k => t.args.length - k) ?_ ?_
 ·refine ⟨0, by omega, ?_⟩
  rw [show visL step s1 (t.op, t.n) (t.args.take 0) = s1 from by rw [List.take_zero, visL]]
  refine wk_list [(0, some 0), (1, some 1), (2, some 2)] rfl ?_ ?_ ?_ ?_
  all_goals try simp [ints, teO, bxO, tmV, ghB, List.range_succ, hi0, ho0, hw0, hc0, hi1, ho1, hw1, hc1]
 intro k hk
 refine awp_seqR fun K hK => ?_
 simp (disch := omega) [ints, rows, scal, wr64, wr8]
 and_intros <;> try first | apply hK | omega | rfl | simp <;> omega
 refine awp_seq ?_
 by_cases hkl : k < t.args.length
 ·obtain ⟨b, hb⟩ : ∃ b, b = t.args[k] := ⟨_, rfl⟩
  have hcut := cellsL_cut t.args k hkl
  rw [← hb, Tm.cells_eq] at hcut
  have ham : b ∈ t.args := by rw [hb]; exact List.getElem_mem hkl
  have hlt := sz_arg ham
  have htv := take_vis step s1 (t.op, t.n) hkl
  rw [← hb] at htv
  have hA := ih b.sz (by omega) b rfl (visL step s1 (t.op, t.n) (t.args.take k)) (t.op, t.n) (okL'_all.1 hokl b ham) (by omega)
  rw [← htv] at hA
  refine awp_cond (b := true) (p := 2) (by simp [scal, hkl] <;> omega) ?_
  refine awp_skip ?_
  show awp _ _ _ _
  refine awp_seq ?_
  refine awp_block ?_
  refine awp_seqR fun K hK => ?_
  simp (disch := omega) [ints, rows, scal, wr64, wr8, hcut, hkl, teO]
  and_intros <;> try first | apply hK | omega | rfl | simp <;> omega
  refine awp_R fun K hK => ?_
  simp (disch := omega) [ints, rows, scal, wr64, wr8, teO]
  (repeat' apply And.intro)
  all_goals (try omega)
  refine call_ruleK (caps := []) (hA) [0, 1] [0, 1] 1 rfl rfl rfl rfl (by kernel_rfl) (by simp) ?_ ?_ (by simp) rfl (by simp) ⟨.inr (.inr ⟨rfl, by simp, by simp⟩), .inr (.inr ⟨rfl, by simp, by simp⟩), trivial⟩ (by simp [tmV, abV, bxO, teO, hi0, ho0, hw0, hc0, hi1, ho1, hw1, hc1]) ?_
  ·simp [scal, rows, ints, tmV, abV, bxO, teO, hi0, ho0, hw0, hc0, hi1, ho1, hw1, hc1]
  ·simp [scal, rows, ints, tmV, abV, bxO, teO, hi0, ho0, hw0, hc0, hi1, ho1, hw1, hc1]
  simp (disch := omega) [ints, rows, scal, wr64, wr8, teO, bxO, hi0, ho0, hw0, hc0, hi1, ho1, hw1, hc1]
  and_intros <;> try first | apply hK | omega | rfl | simp <;> omega
  show awp _ _ _ _
  refine awp_R fun K hK => ?_
  simp (disch := omega) [ints, rows, scal, wr64, wr8]
  (repeat' first | apply hK | apply And.intro) <;> try first | omega | rfl | (simp <;> omega)
  refine ⟨k + 1, by omega, by omega, ?_⟩
  refine wk_list [(0, some 0), (1, some 1), (2, some 2)] rfl ?_ ?_ ?_ ?_
  all_goals try simp [ints, teO, bxO, hi0, ho0, hw0, hc0, hi1, ho1, hw1, hc1]
 ·obtain rfl : k = t.args.length := by omega
  rw [List.take_length]
  refine awp_cond (b := false) (p := 2) (by simp [scal] <;> omega) ?_
  refine awp_exit ?_
  refine ⟨⟨.inl rfl, _, [(0, some 0), (1, some 1)], rfl, ?_, ?_, ?_, ?_⟩, ?_⟩
  all_goals simp [bxO, ghB, List.range_succ, tmV, abV, hi0, ho0, hw0, hc0, hi1, ho1, hw1, hc1]

end Go.Proofs.YtghnmmfkckneaaaGreat.M

namespace Go.Proofs.YtghnmmfkckneaaaGreat.M
open Go.RowKit
set_option linter.unusedVariables false
set_option linter.unusedSimpArgs false

def vaS (s : Int) (h a : Int × Int) : Int := if h.1 = 2 then (if s < h.2 + 1 then h.2 + 1 else s) else s
def hoS (s : Bool) (h a : Int × Int) : Bool := s || decide (h.1 = 1)
mutual
theorem vis_va : ∀ (t : Tm) (s : Int) (a : Int × Int), t.ok = true → 0 ≤ s → t.vis vaS s a = max s (t.gr : Int)
 | .mk o n l, s, a, hok, hs => by
  obtain ⟨hwf, hl⟩ := ok_wf hok
  rw [Tm.vis, Tm.gr]
  have h1 : vaS s (o, n) a = max s ((if o = 2 then n.toNat + 1 else 0 : Nat) : Int) := by
   unfold vaS
   by_cases h : o = 2
   ·rw [if_pos h, if_pos h]; simp only; split <;> omega
   ·rw [if_neg h, if_neg h]; omega
  rw [h1, visL_va l _ _ hl (by omega)]
  omega
theorem visL_va : ∀ (l : List Tm) (s : Int) (a : Int × Int), okL' l = true → 0 ≤ s → visL vaS s a l = max s (grL l : Int)
 | [], s, a, _, hs => by rw [visL, grL]; omega
 | t :: l, s, a, hok, hs => by
  have hok2 : t.ok = true ∧ okL' l = true := by simpa [okL'] using hok
  rw [visL, grL, vis_va t s a hok2.1 hs, visL_va l _ a hok2.2 (by omega)]
  omega
end
mutual
theorem vis_ho : ∀ (t : Tm) (s : Bool) (a : Int × Int), t.vis hoS s a = (s || t.has1)
 | .mk o n l, s, a => by
  rw [Tm.vis, Tm.has1, visL_ho l]
  unfold hoS
  rw [Bool.or_assoc]
theorem visL_ho : ∀ (l : List Tm) (s : Bool) (a : Int × Int), visL hoS s a l = (s || has1L l)
 | [], s, a => by rw [visL, has1L, Bool.or_false]
 | t :: l, s, a => by rw [visL, has1L, vis_ho t s a, visL_ho l, Bool.or_assoc]
end
theorem grL_take {l : List Tm} {k : Nat} (h : k < l.length) : grL (l.take (k + 1)) = max (grL (l.take k)) l[k].gr := by
 have : ∀ l r : List Tm, grL (l ++ r) = max (grL l) (grL r) := fun l r => by
  induction l with
  | nil => rw [List.nil_append, grL]; omega
  | cons a l ih => rw [List.cons_append, grL, grL, ih]; omega
 rw [List.take_succ_eq_append_getElem h, this, grL, grL]
 omega
theorem has1L_take {l : List Tm} {k : Nat} (h : k < l.length) : has1L (l.take (k + 1)) = (has1L (l.take k) || l[k].has1) := by
 have : ∀ l r : List Tm, has1L (l ++ r) = (has1L l || has1L r) := fun l r => by
  induction l with
  | nil => rw [List.nil_append, has1L, Bool.false_or]
  | cons a l ih => rw [List.cons_append, has1L, has1L, ih, Bool.or_assoc]
 rw [List.take_succ_eq_append_getElem h, this, has1L, has1L, Bool.or_false]
def inL (s : Int) : List T := [.int .i64 s]
def boL (s : Bool) : List T := [.bool s]
theorem tsInt (h : 3 < Tryz.prog.types.size) : (Tryz.prog.types[3]'h).size = 1 := by rfl
theorem tsBool (h : 4 < Tryz.prog.types.size) : (Tryz.prog.types[4]'h).size = 1 := by rfl
set_option maxRecDepth 100000 in
set_option maxHeartbeats 8000000 in
theorem vars1_fn (s : Int) (t : Tm) (a : Int × Int) (ho : t.ok = true) : FnS Tryz.prog 84 [tmV 0 t, abV a, .ptr 0 0 1] [bxO 3 (inL s)] (.tup []) [bxO 3 (inL (vaS s (t.op, t.n) a))] := by
 have hwf : t.wf = true := by rw [ok_eq, Bool.and_eq_true] at ho; exact ho.1
 unfold Tm.wf at hwf
 rw [decide_eq_true_iff] at hwf
 refine fn_intro Tryz.func84 rfl (by simp [Tryz.f84]) ?_
 rw [show Tryz.f84.ntmps = 13 from rfl, show Tryz.f84.results = #[] from rfl]
 refine awp_seqR fun K hK => ?_
 simp (disch := omega) [ints, rows, scal, wr64, wr8, tmV, abV, bxO, scC, inL]
 and_intros <;> try first | apply hK | omega | rfl | simp <;> omega
 refine awp_seqR fun K hK => ?_
 simp (disch := omega) [ints, rows, scal, wr64, wr8, tsTerm, bxO, scC, inL]
 (repeat' first | apply hK | apply And.intro) <;> try first | omega | rfl | (simp <;> omega)
 by_cases e : t.op = 2
 ·have hr : vaS s (t.op, t.n) a = if s < t.n + 1 then t.n + 1 else s := by unfold vaS; rw [if_pos e]
  refine awp_cond (b := true) (p := 2) (by simp [scal, e] <;> omega) ?_
  refine awp_R fun K hK => ?_
  simp (disch := omega) [ints, rows, scal, wr64, wr8, bxO, scC, inL]
  (repeat' first | apply hK | apply And.intro) <;> try first | omega | rfl | (simp <;> omega)
  refine ⟨_, [(0, some 0)], (by first | rfl | (simp [ints, rows, scal, tmV, abV, bxO, scC, inL, hr]; rfl)), ?_, ?_, ?_, ?_⟩
  all_goals try simp [ints, rows, scal, tmV, abV, bxO, scC, inL, hr]
 ·have hr : vaS s (t.op, t.n) a = s := by unfold vaS; rw [if_neg e]
  refine awp_cond (b := false) (p := 2) (by simp [scal, e] <;> omega) ?_
  refine awp_skip ?_
  refine ⟨⟨.inl rfl, _, [(0, some 0)], rfl, ?_, ?_, ?_, ?_⟩, ?_⟩
  all_goals simp [tmV, abV, bxO, scC, inL, hr]
set_option maxRecDepth 100000 in
set_option maxHeartbeats 8000000 in
theorem hasOne1_fn (s : Bool) (t : Tm) (a : Int × Int) (ho : t.ok = true) : FnS Tryz.prog 89 [tmV 0 t, abV a, .ptr 0 0 1] [bxO 4 (boL s)] (.tup []) [bxO 4 (boL (hoS s (t.op, t.n) a))] := by
 refine fn_intro Tryz.func89 rfl (by simp [Tryz.f89]) ?_
 rw [show Tryz.f89.ntmps = 11 from rfl, show Tryz.f89.results = #[] from rfl]
 refine awp_seqR fun K hK => ?_
 simp (disch := omega) [ints, rows, scal, wr64, wr8, tmV, abV, bxO, scC, boL]
 (repeat' first | apply hK | apply And.intro) <;> try first | omega | rfl | (simp <;> omega)
 cases s with
 | true =>
  refine awp_R fun K hK => ?_
  simp (disch := omega) [ints, rows, scal, wr64, wr8, tsTerm, bxO, scC, boL]
  (repeat' first | apply hK | apply And.intro) <;> try first | omega | rfl | (simp <;> omega)
  refine ⟨_, [(0, some 0)], (by first | rfl | (simp [ints, rows, scal, tmV, abV, bxO, scC, boL, hoS]; rfl)), ?_, ?_, ?_, ?_⟩
  all_goals try simp [ints, rows, scal, tmV, abV, bxO, scC, boL, hoS]
 | false =>
  refine awp_R fun K hK => ?_
  simp (disch := omega) [ints, rows, scal, wr64, wr8, tsTerm, bxO, scC, boL]
  (repeat' first | apply hK | apply And.intro) <;> try first | omega | rfl | (simp <;> omega)
  refine ⟨_, [(0, some 0)], (by first | rfl | (simp [ints, rows, scal, tmV, abV, bxO, scC, boL, hoS]; rfl)), ?_, ?_, ?_, ?_⟩
  all_goals try simp [ints, rows, scal, tmV, abV, bxO, scC, boL, hoS]
  all_goals (by_cases h : t.op = 1 <;> simp [h])
set_option maxRecDepth 100000 in
set_option maxHeartbeats 8000000 in
theorem vars_fn (ts : List Tm) (hts : ts.length ≤ 1000) (hok : ∀ t ∈ ts, t.ok = true ∧ t.sz ≤ 1000) : FnA Tryz.prog 48 [.t 0 (.sl 3 (cellsL ts))] (.t 2 (.int .i64 (grL ts : Nat))) := by
 refine fn_intro Tryz.func48 rfl (by simp [Tryz.f48]) ?_
 rw [show Tryz.f48.ntmps = 18 from rfl, show Tryz.f48.results = #[.tmp 2] from rfl]
 refine awp_seqR fun K hK => ?_
 simp (disch := omega) [ints, rows, scal, wr64, wr8]
 and_intros <;> try first | apply hK | omega | rfl | simp <;> omega
 refine awp_seqR fun K hK => ?_
 simp (disch := omega) [ints, rows, scal, wr64, wr8, tsInt]
 and_intros <;> try first | apply hK | omega | rfl | simp <;> omega
 refine awp_seq ?_
 refine awp_seqR fun K hK => ?_
 simp (disch := omega) [ints, rows, scal, wr64, wr8]
 and_intros <;> try first | apply hK | omega | rfl | simp <;> omega
 refine awp_block ?_
 refine awp_loop (fun k : Nat => mkS [(3, .ptr 0 0 1), (6, .t 0 (.sl 3 (cellsL ts))), (7, .t 2 (.int .i64 ts.length)), (8, .t 2 (.int .i64 k))] [(0, bxO 3 (inL (grL (ts.take k) : Nat)))] 1 18 [.any]) (fun k => k ≤ ts.length) (fun k => ts.length - k) ?_ ?_
 ·refine ⟨0, by omega, ?_⟩
  refine wk_list [(0, some 1000000)] rfl ?_ ?_ ?_ ?_
  all_goals try simp [ints, bxO, scC, inL, grL, tsInt]
 intro k hk
 refine awp_seqR fun K hK => ?_
 simp (disch := omega) [ints, rows, scal, wr64, wr8]
 and_intros <;> try first | apply hK | omega | rfl | simp <;> omega
 refine awp_seq ?_
 by_cases hkl : k < ts.length
 ·obtain ⟨b, hb⟩ : ∃ b, b = ts[k] := ⟨_, rfl⟩
  have hcut := cellsL_cut ts k hkl
  have hgt := grL_take hkl
  rw [← hb] at hcut hgt
  rw [Tm.cells_eq] at hcut
  obtain ⟨hbo, hbs⟩ := hok b (by rw [hb]; exact List.getElem_mem hkl)
  have hV := visit1_fn (S := Int) (L0 := inL) (ty0 := 3) (c0 := 1) (F := 84) (by kernel_rfl) vaS (fun s x hx => by simp [inL] at hx; subst hx; rfl) (fun s => rfl) vars1_fn b (grL (ts.take k) : Nat) (0, 0) hbo hbs
  rw [vis_va b _ _ hbo (by omega), show max ((grL (ts.take k) : Nat) : Int) (b.gr : Int) = ((grL (ts.take (k + 1)) : Nat) : Int) by rw [hgt]; omega] at hV
  refine awp_cond (b := true) (p := 2) (by simp [scal, hkl] <;> omega) ?_
  refine awp_skip ?_
  show awp _ _ _ _
  refine awp_seq ?_
  refine awp_block ?_
  refine awp_seqR fun K hK => ?_
  simp (disch := omega) [ints, rows, scal, wr64, wr8, hcut, hkl]
  and_intros <;> try first | apply hK | omega | rfl | simp <;> omega
  refine awp_R fun K hK => ?_
  simp (disch := omega) [ints, rows, scal, wr64, wr8, tsTerm]
  (repeat' apply And.intro)
  all_goals (try omega)
  refine call_ruleK (caps := []) (hV) [0] [0] 1 rfl rfl rfl rfl (by kernel_rfl) (by simp) ?_ ?_ (by simp) rfl (by simp) ⟨.inr (.inr ⟨rfl, by simp, by simp⟩), trivial⟩ (by simp [tmV, abV, bxO, scC, inL]) ?_
  ·simp [scal, rows, ints, tmV, abV, bxO, scC, inL]
  ·simp [scal, rows, ints, tmV, abV, bxO, scC, inL]
  simp (disch := omega) [ints, rows, scal, wr64, wr8, bxO, scC, inL]
  and_intros <;> try first | apply hK | omega | rfl | simp <;> omega
  show awp _ _ _ _
  refine awp_R fun K hK => ?_
  simp (disch := omega) [ints, rows, scal, wr64, wr8]
  (repeat' first | apply hK | apply And.intro) <;> try first | omega | rfl | (simp <;> omega)
  refine ⟨k + 1, by omega, by omega, ?_⟩
  refine wk_list [(0, some 0)] rfl ?_ ?_ ?_ ?_
  all_goals try simp [ints, bxO, scC, inL]
 ·obtain rfl : k = ts.length := by omega
  rw [List.take_length]
  refine awp_cond (b := false) (p := 2) (by simp [scal] <;> omega) ?_
  refine awp_exit ?_
  show awp _ _ _ _
  refine awp_seqR fun K hK => ?_
  simp (disch := omega) [ints, rows, scal, wr64, wr8, bxO, scC, inL]
  and_intros <;> try first | apply hK | omega | rfl | simp <;> omega
  refine awp_ret ?_
  refine ⟨⟨.inr rfl, _, [], rfl, trivial, trivial, by simp, ?_⟩, by simp⟩
  simp
set_option maxRecDepth 100000 in
set_option maxHeartbeats 8000000 in
theorem hasOne_fn (ts : List Tm) (hts : ts.length ≤ 1000) (hok : ∀ t ∈ ts, t.ok = true ∧ t.sz ≤ 1000) : FnA Tryz.prog 50 [.t 0 (.sl 3 (cellsL ts))] (.t 2 (.bool (has1L ts))) := by
 refine fn_intro Tryz.func50 rfl (by simp [Tryz.f50]) ?_
 rw [show Tryz.f50.ntmps = 18 from rfl, show Tryz.f50.results = #[.tmp 2] from rfl]
 refine awp_seqR fun K hK => ?_
 simp (disch := omega) [ints, rows, scal, wr64, wr8]
 and_intros <;> try first | apply hK | omega | rfl | simp <;> omega
 refine awp_seqR fun K hK => ?_
 simp (disch := omega) [ints, rows, scal, wr64, wr8, tsBool]
 and_intros <;> try first | apply hK | omega | rfl | simp <;> omega
 refine awp_seq ?_
 refine awp_seqR fun K hK => ?_
 simp (disch := omega) [ints, rows, scal, wr64, wr8]
 and_intros <;> try first | apply hK | omega | rfl | simp <;> omega
 refine awp_block ?_
 refine awp_loop (fun k : Nat => mkS [(3, .ptr 0 0 1), (6, .t 0 (.sl 3 (cellsL ts))), (7, .t 2 (.int .i64 ts.length)), (8, .t 2 (.int .i64 k))] [(0, bxO 4 (boL (has1L (ts.take k))))] 1 18 [.any]) (fun k => k ≤ ts.length) (fun k => ts.length - k) ?_ ?_
 ·refine ⟨0, by omega, ?_⟩
  refine wk_list [(0, some 1000000)] rfl ?_ ?_ ?_ ?_
  all_goals try simp [ints, bxO, scC, boL, has1L, tsBool]
 intro k hk
 refine awp_seqR fun K hK => ?_
 simp (disch := omega) [ints, rows, scal, wr64, wr8]
 and_intros <;> try first | apply hK | omega | rfl | simp <;> omega
 refine awp_seq ?_
 by_cases hkl : k < ts.length
 ·obtain ⟨b, hb⟩ : ∃ b, b = ts[k] := ⟨_, rfl⟩
  have hcut := cellsL_cut ts k hkl
  have hgt := has1L_take hkl
  rw [← hb] at hcut hgt
  rw [Tm.cells_eq] at hcut
  obtain ⟨hbo, hbs⟩ := hok b (by rw [hb]; exact List.getElem_mem hkl)
  have hV := visit1_fn (S := Bool) (L0 := boL) (ty0 := 4) (c0 := 1) (F := 89) (by kernel_rfl) hoS (fun s x hx => by simp [boL] at hx; subst hx; rfl) (fun s => rfl) hasOne1_fn b (has1L (ts.take k)) (0, 0) hbo hbs
  rw [vis_ho b, ← hgt] at hV
  refine awp_cond (b := true) (p := 2) (by simp [scal, hkl] <;> omega) ?_
  refine awp_skip ?_
  show awp _ _ _ _
  refine awp_seq ?_
  refine awp_block ?_
  refine awp_seqR fun K hK => ?_
  simp (disch := omega) [ints, rows, scal, wr64, wr8, hcut, hkl]
  and_intros <;> try first | apply hK | omega | rfl | simp <;> omega
  refine awp_R fun K hK => ?_
  simp (disch := omega) [ints, rows, scal, wr64, wr8, tsTerm]
  (repeat' apply And.intro)
  all_goals (try omega)
  refine call_ruleK (caps := []) (hV) [0] [0] 1 rfl rfl rfl rfl (by kernel_rfl) (by simp) ?_ ?_ (by simp) rfl (by simp) ⟨.inr (.inr ⟨rfl, by simp, by simp⟩), trivial⟩ (by simp [tmV, abV, bxO, scC, boL]) ?_
  ·simp [scal, rows, ints, tmV, abV, bxO, scC, boL]
  ·simp [scal, rows, ints, tmV, abV, bxO, scC, boL]
  simp (disch := omega) [ints, rows, scal, wr64, wr8, bxO, scC, boL]
  and_intros <;> try first | apply hK | omega | rfl | simp <;> omega
  show awp _ _ _ _
  refine awp_R fun K hK => ?_
  simp (disch := omega) [ints, rows, scal, wr64, wr8]
  (repeat' first | apply hK | apply And.intro) <;> try first | omega | rfl | (simp <;> omega)
  refine ⟨k + 1, by omega, by omega, ?_⟩
  refine wk_list [(0, some 0)] rfl ?_ ?_ ?_ ?_
  all_goals try simp [ints, bxO, scC, boL]
 ·obtain rfl : k = ts.length := by omega
  rw [List.take_length]
  refine awp_cond (b := false) (p := 2) (by simp [scal] <;> omega) ?_
  refine awp_exit ?_
  show awp _ _ _ _
  refine awp_seqR fun K hK => ?_
  simp (disch := omega) [ints, rows, scal, wr64, wr8, bxO, scC, boL]
  and_intros <;> try first | apply hK | omega | rfl | simp <;> omega
  refine awp_ret ?_
  refine ⟨⟨.inr rfl, _, [], rfl, trivial, trivial, by simp, ?_⟩, by simp⟩
  simp
theorem vId_0 {a b : Tm} (h : a.val = true ∧ b.val = true) : vId a b = 0 := by unfold vId vTm; rw [if_pos h.1, if_pos h.2]
theorem vId_1 {a b : Tm} (h : ¬ (a.val = true ∧ b.val = true)) : vId a b = 21 := by
 unfold vId vTm
 by_cases h1 : a.val = true
 ·rw [if_pos h1, if_neg (fun h2 => h ⟨h1, h2⟩)]
 ·rw [if_neg h1]
theorem range_6 : List.range 6 = [0, 1, 2, 3, 4, 5] := rfl
def varsI (a b : Tm) : Nat := if a.val = true ∧ b.val = true then max a.gr b.gr else 0
theorem pair_ok {a b : Tm} (h : a.val = true ∧ b.val = true) : ∀ t ∈ [a, b], t.ok = true ∧ t.sz ≤ 1000 := fun t ht => by
 simp at ht
 rcases ht with rfl | rfl
 ·have := val_ok h.1; exact ⟨this.1, by omega⟩
 ·have := val_ok h.2; exact ⟨this.1, by omega⟩
theorem cells2 (a b : Tm) : cellsL [a, b] = [.int .i64 a.op, .int .i64 a.n, .sl 3 (cellsL a.args), .int .i64 b.op, .int .i64 b.n, .sl 3 (cellsL b.args)] := by
 show a.cells ++ (b.cells ++ []) = _
 rw [Tm.cells_eq, Tm.cells_eq]
 rfl
end Go.Proofs.YtghnmmfkckneaaaGreat.M

namespace Go.Proofs.YtghnmmfkckneaaaGreat.M
open Go.RowKit
set_option linter.unusedVariables false
set_option linter.unusedSimpArgs false

theorem mulVal_fn (t : List (List Int)) : FnA Tryz.prog 46 [.t 0 (rows t)] (.t 2 (.int .i64 (vErr t))) := by
 intro w V ob vs hm hn hv
 have g0 := (hv 0 _ rfl).rep
 rw [vs1 hn]
 refine (validate_any w _ t (rep_rows mem_cell g0)).mono ?_
 rintro e w' ⟨rfl, hbel⟩
 exact ⟨_, ob, rfl, hm.after hbel, .mkInt _ _ _ _, gh_any (by simp)⟩
def isId (T : Nat → Nat → Nat) (k e : Nat) : Bool := (List.range k).all fun x => decide (T e x = x) && decide (T x e = x)
theorem isId_succ (T : Nat → Nat → Nat) (k e : Nat) : isId T (k + 1) e = (isId T k e && (decide (T e k = k) && decide (T k e = k))) := by
 unfold isId
 rw [List.range_succ, List.all_append]
 simp
theorem isId_le {T : Nat → Nat → Nat} {e : Nat} : ∀ {k n : Nat}, k ≤ n → isId T k e = false → isId T n e = false := fun {k n} h hf => by
 obtain ⟨d, rfl⟩ : ∃ d, n = k + d := ⟨n - k, by omega⟩
 clear h
 induction d with
 | zero => exact hf
 | succ d ih => rw [show k + (d + 1) = (k + d) + 1 by omega, isId_succ, ih]; rfl
def idG (T : Nat → Nat → Nat) (n : Nat) : Nat → Nat → Int
 | 0, e => -1
 | f + 1, e => if isId T n e = true then (e : Int) else idG T n f (e + 1)
def idI (T : Nat → Nat → Nat) (n : Nat) : Int := idG T n n 0
set_option maxRecDepth 100000 in
set_option maxHeartbeats 8000000 in
theorem mulId1_fn (tb : List (List Int)) (n : Nat) (T : Nat → Nat → Nat) (ht : TbL tb n T) (hn : n ≤ 1000) (e : Nat) (he : e < n) :
  FnS Tryz.prog 88 [.t 2 (.int .i64 (e : Nat)), .ptr 0 0 1] [.box 25 [.t 1 (rows tb)]] (.t 2 (.bool (isId T n e))) [.box 25 [.t 1 (rows tb)]] := by
 have htl := ht.len
 refine fn_intro Tryz.func88 rfl (by simp [Tryz.f88]) ?_
 rw [show Tryz.f88.ntmps = 31 from rfl, show Tryz.f88.results = #[.tmp 3] from rfl]
 refine awp_seqR fun K hK => ?_
 simp (disch := omega) [ints, rows, scal, wr64, wr8]
 and_intros <;> try first | apply hK | omega | rfl | simp <;> omega
 refine awp_seq ?_
 refine awp_seqR fun K hK => ?_
 simp (disch := omega) [ints, rows, scal, wr64, wr8, rows]
 and_intros <;> try first | apply hK | omega | rfl | simp <;> omega
 refine awp_block ?_
 refine awp_loop (fun k : Nat => mkS [(0, .t 2 (.int .i64 (e : Nat))), (1, .ptr 0 0 1), (6, .t 2 (.int .i64 (n : Nat))), (7, .t 2 (.int .i64 (k : Nat)))] [(0, .box 25 [.t 1 (rows tb)])] 1 31 [.any, .ptr 0 0 1]) (fun k => k ≤ n ∧ isId T k e = true) (fun k => n - k) ?_ ?_
 ·refine ⟨0, ⟨by omega, rfl⟩, ?_⟩
  refine wk_list [(0, some 0)] rfl ?_ ?_ ?_ ?_
  all_goals try simp [ints, rows, htl]
 rintro k ⟨hk, hid⟩
 refine awp_seqR fun K hK => ?_
 simp (disch := omega) [ints, rows, scal, wr64, wr8]
 and_intros <;> try first | apply hK | omega | rfl | simp <;> omega
 refine awp_seq ?_
 by_cases hkn : k < n
 ·obtain ⟨g1, g2, g3⟩ := ht.get he hkn
  obtain ⟨g4, g5, g6⟩ := ht.get hkn he
  have hs := isId_succ T k e
  rw [hid, Bool.true_and] at hs
  refine awp_cond (b := true) (p := 2) (by simp [scal, hkn] <;> omega) ?_
  refine awp_skip ?_
  show awp _ _ _ _
  refine awp_seq ?_
  refine awp_block ?_
  refine awp_seqR fun K hK => ?_
  simp (disch := omega) [ints, rows, scal, wr64, wr8]
  (repeat' first | apply hK | apply And.intro) <;> try first | omega | rfl | (simp <;> omega)
  by_cases e1 : T e k = k
  ·by_cases e2 : T k e = k
   ·have hgo : isId T (k + 1) e = true := by rw [hs]; simp [e1, e2]
    have e1' : ((T e k : Nat) : Int) = (k : Int) := by rw [e1]
    have e2' : ((T k e : Nat) : Int) = (k : Int) := by rw [e2]
    refine awp_seqR fun K hK => ?_
    simp (disch := omega) [ints, rows, scal, wr64, wr8, rows, ints, g1, g2, g3, g4, g5, g6, e1, e2]
    and_intros <;> try first | apply hK | omega | rfl | simp <;> omega
    refine awp_cond (b := false) (p := 2) (by simp [scal, e1, e2] <;> omega) ?_
    refine awp_skip ?_
    show awp _ _ _ _
    refine awp_R fun K hK => ?_
    simp (disch := omega) [ints, rows, scal, wr64, wr8]
    (repeat' first | apply hK | apply And.intro) <;> try first | omega | rfl | (simp <;> omega)
    refine ⟨k + 1, ⟨by omega, hgo⟩, by omega, ?_⟩
    refine wk_list [(0, some 0)] rfl ?_ ?_ ?_ ?_
    all_goals try simp [ints, rows]
   ·have hno : isId T n e = false := isId_le (k := k + 1) (by omega) (by rw [hs]; simp [e2])
    refine awp_seqR fun K hK => ?_
    simp (disch := omega) [ints, rows, scal, wr64, wr8, rows, ints, g1, g2, g3, g4, g5, g6, e1, e2]
    and_intros <;> try first | apply hK | omega | rfl | simp <;> omega
    refine awp_cond (b := true) (p := 2) (by simp [scal, e1, e2] <;> omega) ?_
    refine awp_seqR fun K hK => ?_
    simp (disch := omega) [ints, rows, scal, wr64, wr8]
    and_intros <;> try first | apply hK | omega | rfl | simp <;> omega
    refine awp_ret ?_
    refine ⟨⟨.inr rfl, _, [(0, some 0)], (by first | rfl | (simp [ints, rows, scal, hno]; rfl)), ?_, ?_, ?_, ?_⟩, ?_⟩
    all_goals try simp [ints, rows, scal, hno]
  ·have hno : isId T n e = false := isId_le (k := k + 1) (by omega) (by rw [hs]; simp [e1])
   have e1b : (((T e k : Nat) : Int) != (k : Int)) = true := by simp; omega
   refine awp_seqR fun K hK => ?_
   simp (disch := omega) [ints, rows, scal, wr64, wr8, rows, ints, g1, g2, g3, g4, g5, g6, e1, e1b]
   and_intros <;> try first | apply hK | omega | rfl | simp <;> omega
   refine awp_cond (b := true) (p := 2) (by simp [scal, e1] <;> omega) ?_
   refine awp_seqR fun K hK => ?_
   simp (disch := omega) [ints, rows, scal, wr64, wr8]
   and_intros <;> try first | apply hK | omega | rfl | simp <;> omega
   refine awp_ret ?_
   refine ⟨⟨.inr rfl, _, [(0, some 0)], (by first | rfl | (simp [ints, rows, scal, hno]; rfl)), ?_, ?_, ?_, ?_⟩, ?_⟩
   all_goals try simp [ints, rows, scal, hno]
 ·obtain rfl : k = n := by omega
  refine awp_cond (b := false) (p := 2) (by simp [scal] <;> omega) ?_
  refine awp_exit ?_
  show awp _ _ _ _
  refine awp_seqR fun K hK => ?_
  simp (disch := omega) [ints, rows, scal, wr64, wr8]
  and_intros <;> try first | apply hK | omega | rfl | simp <;> omega
  refine awp_ret ?_
  refine ⟨⟨.inr rfl, _, [(0, some 0)], (by first | rfl | (simp [ints, rows, scal, hid]; rfl)), ?_, ?_, ?_, ?_⟩, ?_⟩
  all_goals try simp [ints, rows, scal, hid]
set_option maxRecDepth 100000 in
set_option maxHeartbeats 8000000 in
theorem mulIdx_fn (tb : List (List Int)) (n : Nat) (T : Nat → Nat → Nat) (ht : TbL tb n T) (hn : n ≤ 1000) :
  FnS Tryz.prog 86 [.t 0 (ints (tab n fun i => (i : Int))), .fn 88 [.ptr 0 0 1]] [.box 25 [.t 1 (rows tb)]] (.t 2 (.int .i64 (idI T n))) [.box 25 [.t 1 (rows tb)]] := by
 refine fn_intro Tryz.func86 rfl (by simp [Tryz.f86]) ?_
 rw [show Tryz.f86.ntmps = 19 from rfl, show Tryz.f86.results = #[.tmp 4] from rfl]
 refine awp_seqR fun K hK => ?_
 simp (disch := omega) [ints, rows, scal, wr64, wr8]
 and_intros <;> try first | apply hK | omega | rfl | simp <;> omega
 refine awp_seq ?_
 refine awp_seqR fun K hK => ?_
 simp (disch := omega) [ints, rows, scal, wr64, wr8, ints]
 and_intros <;> try first | apply hK | omega | rfl | simp <;> omega
 refine awp_block ?_
 refine awp_loop (fun k : Nat => mkS [(0, .t 0 (ints (tab n fun i => (i : Int)))), (1, .fn 88 [.ptr 0 0 1]), (7, .t 2 (.int .i64 (n : Nat))), (8, .t 2 (.int .i64 (k : Nat)))] [(0, .box 25 [.t 1 (rows tb)])] 1 19 [.any, .any]) (fun k => k ≤ n ∧ idI T n = idG T n (n - k) k) (fun k => n - k) ?_ ?_
 ·refine ⟨0, ⟨by omega, rfl⟩, ?_⟩
  refine wk_list [(0, some 0)] rfl ?_ ?_ ?_ ?_
  all_goals try simp [ints, ints, rows]
 rintro k ⟨hk, hid⟩
 refine awp_seqR fun K hK => ?_
 simp (disch := omega) [ints, rows, scal, wr64, wr8]
 and_intros <;> try first | apply hK | omega | rfl | simp <;> omega
 refine awp_seq ?_
 by_cases hkn : k < n
 ·have h1 := mulId1_fn tb n T ht hn k hkn
  rw [show n - k = (n - (k + 1)) + 1 by omega, idG] at hid
  refine awp_cond (b := true) (p := 2) (by simp [scal, hkn] <;> omega) ?_
  refine awp_skip ?_
  show awp _ _ _ _
  refine awp_seq ?_
  refine awp_block ?_
  refine awp_seqR fun K hK => ?_
  simp (disch := omega) [ints, rows, scal, wr64, wr8]
  and_intros <;> try first | apply hK | omega | rfl | simp <;> omega
  refine awp_seqR fun K hK => ?_
  simp (disch := omega) [ints, rows, scal, wr64, wr8, ints, hkn]
  (repeat' apply And.intro)
  all_goals (try omega)
  refine call_rule (caps := [.ptr 0 0 1]) (h1) [0] [0] 1 rfl rfl rfl (by simp) (by first | assumption | kernel_rfl) (by simp) ?_ ?_ (by simp) rfl (by simp) ⟨.inr ⟨rfl, 1, _, _, _, _, _, rfl, rfl, (by first | rfl | simp), rfl, (by first | rfl | simp)⟩, trivial⟩ (by simp) ?_
  ·simp [scal, rows, ints]
  ·simp [scal, rows, ints]
  simp (disch := omega) [ints, rows, scal, wr64, wr8, rows]
  (repeat' first | apply hK | apply And.intro) <;> try first | omega | rfl | (simp <;> omega)
  by_cases e : isId T n k = true
  ·rw [if_pos e] at hid
   refine awp_cond (b := true) (p := 2) (by simp [scal, e] <;> omega) ?_
   refine awp_seqR fun K hK => ?_
   simp (disch := omega) [ints, rows, scal, wr64, wr8]
   and_intros <;> try first | apply hK | omega | rfl | simp <;> omega
   refine awp_ret ?_
   refine ⟨⟨.inr rfl, _, [(0, some 0)], (by first | rfl | (simp [ints, rows, scal, hid]; rfl)), ?_, ?_, ?_, ?_⟩, ?_⟩
   all_goals try simp [ints, rows, scal, hid]
  ·rw [if_neg e] at hid
   refine awp_cond (b := false) (p := 2) (by simp [scal, e] <;> omega) ?_
   refine awp_skip ?_
   show awp _ _ _ _
   refine awp_R fun K hK => ?_
   simp (disch := omega) [ints, rows, scal, wr64, wr8]
   (repeat' first | apply hK | apply And.intro) <;> try first | omega | rfl | (simp <;> omega)
   refine ⟨k + 1, ⟨by omega, hid⟩, by omega, ?_⟩
   refine wk_list [(0, some 0)] rfl ?_ ?_ ?_ ?_
   all_goals try simp [ints, rows]
 ·obtain rfl : k = n := by omega
  rw [Nat.sub_self] at hid
  have hid : idI T k = -1 := hid
  refine awp_cond (b := false) (p := 2) (by simp [scal] <;> omega) ?_
  refine awp_exit ?_
  show awp _ _ _ _
  refine awp_seqR fun K hK => ?_
  simp (disch := omega) [ints, rows, scal, wr64, wr8]
  and_intros <;> try first | apply hK | omega | rfl | simp <;> omega
  refine awp_ret ?_
  refine ⟨⟨.inr rfl, _, [(0, some 0)], (by first | rfl | (simp [ints, rows, scal, hid]; rfl)), ?_, ?_, ?_, ?_⟩, ?_⟩
  all_goals try simp [ints, rows, scal, hid]
set_option maxRecDepth 100000 in
set_option maxHeartbeats 4000000 in
theorem mulElems_fn (tb : List (List Int)) (hn : tb.length ≤ 1000000) : FnA Tryz.prog 87 [.t 0 (rows tb)] (.t 2 (ints (tab tb.length fun i => (i : Int)))) := by
 refine fn_intro Tryz.func87 rfl (by simp [Tryz.f87]) ?_
 rw [show Tryz.f87.ntmps = 19 from rfl, show Tryz.f87.results = #[.tmp 2] from rfl]
 refine awp_seqR fun K hK => ?_
 simp (disch := omega) [ints, rows, scal, wr64, wr8]
 and_intros <;> try first | apply hK | omega | rfl | simp <;> omega
 refine awp_seqR fun K hK => ?_
 simp (disch := omega) [ints, rows, scal, wr64, wr8, rows]
 and_intros <;> try first | apply hK | omega | rfl | simp <;> omega
 refine awp_seq ?_
 refine awp_seqR fun K hK => ?_
 simp (disch := omega) [ints, rows, scal, wr64, wr8]
 and_intros <;> try first | apply hK | omega | rfl | simp <;> omega
 refine awp_block ?_
 refine awp_loop (fun k : Nat => mkS [(3, .own 0 tb.length), (9, .t 2 (.int .i64 tb.length)), (10, .t 2 (.int .i64 k))] [(0, .row 3 1 2 (tab tb.length fun i => .int .i64 (if i < k then (i : Int) else 0)))] 1 19 [.any]) (fun k => k ≤ tb.length) (fun k => tb.length - k) ?_ ?_
 ·refine ⟨0, by omega, ?_⟩
  refine wk_list [(0, some 3000000)] rfl ?_ ?_ ?_ ?_
  all_goals try simp [ints, rep_tab]
 ·intro k hk
  refine awp_seqR fun K hK => ?_
  simp (disch := omega) [ints, rows, scal, wr64, wr8]
  (repeat' first | apply hK | apply And.intro) <;> try first | omega | rfl | (simp <;> omega)
  by_cases hlt : k < tb.length
  ·refine awp_seq ?_
   refine awp_cond (b := true) (p := 2) (by simp [scal, hlt] <;> omega) ?_
   refine awp_skip ?_
   refine awp_seq ?_
   refine awp_block ?_
   refine awp_seqR fun K hK => ?_
   simp (disch := omega) [ints, rows, scal, wr64, wr8]
   and_intros <;> try first | apply hK | omega | rfl | simp <;> omega
   refine awp_R fun K hK => ?_
   simp (disch := omega) [ints, rows, scal, wr64, wr8, hlt]
   and_intros <;> try first | apply hK | omega | rfl | simp <;> omega
   show awp _ _ _ _
   refine awp_R fun K hK => ?_
   simp (disch := omega) [ints, rows, scal, wr64, wr8]
   (repeat' first | apply hK | apply And.intro) <;> try first | omega | rfl | (simp <;> omega)
   refine ⟨k + 1, by omega, by omega, ?_⟩
   refine wk_list [(0, some 0)] rfl ?_ ?_ ?_ ?_
   all_goals try simp [ints]
   rw [tab_set]
   refine tab_congr (fun i hi => ?_)
   by_cases e : i = k
   ·simp [e]
   ·rw [if_neg e]
    by_cases e2 : i < k
    ·rw [if_pos e2, if_pos (by omega)]
    ·rw [if_neg e2, if_neg (by omega)]
  ·refine awp_seq ?_
   refine awp_cond (b := false) (p := 2) (by simp [scal, hlt] <;> omega) ?_
   refine awp_exit ?_
   show awp _ _ _ _
   refine awp_seqR fun K hK => ?_
   simp (disch := omega) [ints, rows, scal, wr64, wr8]
   and_intros <;> try first | apply hK | omega | rfl | simp <;> omega
   refine awp_ret ?_
   refine ⟨⟨.inr rfl, _, [], rfl, trivial, trivial, by simp [ints], ?_⟩, by simp [ints]⟩
   simp [ints]
   rw [tab_map]
   refine tab_congr (fun i hi => ?_)
   rw [if_pos (by omega)]
set_option maxRecDepth 100000 in
set_option maxHeartbeats 4000000 in
theorem mulValid_fn (tb : List (List Int)) (v1 : vErr tb = 0) : FnA Tryz.prog 85 [.t 0 (rows tb)] (.t 2 (.bool true)) := by
 have h1 := mulVal_fn tb
 rw [v1] at h1
 refine fn_intro Tryz.func85 rfl (by simp [Tryz.f85]) ?_
 rw [show Tryz.f85.ntmps = 6 from rfl, show Tryz.f85.results = #[.tmp 2] from rfl]
 refine awp_seqR fun K hK => ?_
 simp (disch := omega) [ints, rows, scal, wr64, wr8]
 and_intros <;> try first | apply hK | omega | rfl | simp <;> omega
 refine awp_seqR fun K hK => ?_
 simp (disch := omega) [ints, rows, scal, wr64, wr8]
 (repeat' apply And.intro)
 all_goals (try omega)
 refine call_rule (caps := []) (h1) [] [] 2 rfl rfl rfl rfl (by kernel_rfl) (by simp) ?_ trivial trivial rfl trivial trivial (by simp) ?_
 ·simp [scal, rows, ints]
 simp (disch := omega) [ints, rows, scal, wr64, wr8]
 and_intros <;> try first | apply hK | omega | rfl | simp <;> omega
 refine awp_ret ?_
 refine ⟨⟨.inr rfl, _, [], rfl, trivial, trivial, by simp, ?_⟩, by simp⟩
 simp
set_option maxRecDepth 100000 in
set_option maxHeartbeats 4000000 in
theorem mulId_fn (tb : List (List Int)) (v1 : vErr tb = 0) : FnA Tryz.prog 49 [.t 0 (rows tb)] (.t 2 (.int .i64 (idI (tabOf tb) tb.length))) := by
 obtain ⟨hl0, hl4⟩ := vErr_len v1
 have h1 := mulValid_fn tb v1
 have h2 := mulElems_fn tb (by omega)
 have h3 := mulIdx_fn tb tb.length (tabOf tb) (TbL.of v1) (by omega)
 refine fn_intro Tryz.func49 rfl (by simp [Tryz.f49]) ?_
 rw [show Tryz.f49.ntmps = 10 from rfl, show Tryz.f49.results = #[.tmp 2] from rfl]
 refine awp_seqR fun K hK => ?_
 simp (disch := omega) [ints, rows, scal, wr64, wr8]
 and_intros <;> try first | apply hK | omega | rfl | simp <;> omega
 refine awp_seq ?_
 refine awp_seqR fun K hK => ?_
 simp (disch := omega) [ints, rows, scal, wr64, wr8]
 (repeat' apply And.intro)
 all_goals (try omega)
 refine call_rule (caps := []) (h1) [] [] 2 rfl rfl rfl rfl (by kernel_rfl) (by simp) ?_ trivial trivial rfl trivial trivial (by simp) ?_
 ·simp [scal, rows, ints]
 simp (disch := omega) [ints, rows, scal, wr64, wr8]
 and_intros <;> try first | apply hK | omega | rfl | simp <;> omega
 refine awp_cond (b := false) (p := 2) (by simp [scal] <;> omega) ?_
 refine awp_skip ?_
 show awp _ _ _ _
 refine awp_seqR fun K hK => ?_
 simp (disch := omega) [ints, rows, scal, wr64, wr8]
 (repeat' apply And.intro)
 all_goals (try omega)
 refine call_rule (caps := []) (h2) [] [] 2 rfl rfl rfl rfl (by kernel_rfl) (by simp) ?_ trivial trivial rfl trivial trivial (by simp) ?_
 ·simp [scal, rows, ints]
 simp (disch := omega) [ints, rows, scal, wr64, wr8]
 (repeat' apply And.intro)
 all_goals (try omega)
 refine call_rule (caps := []) (h3) [0] [8000000] 0 rfl rfl rfl rfl (by kernel_rfl) (by simp) ?_ ?_ (by simp) rfl (by simp) ⟨.inl ⟨by omega, by omega⟩, trivial⟩ (by simp) ?_
 ·simp [scal, rows, ints]
 ·simp [scal, rows, ints]
 simp (disch := omega) [ints, rows, scal, wr64, wr8]
 and_intros <;> try first | apply hK | omega | rfl | simp <;> omega
 refine awp_ret ?_
 refine ⟨⟨.inr rfl, _, [], rfl, trivial, trivial, by simp, ?_⟩, by simp⟩
 simp

set_option linter.unusedSimpArgs false

structure ClosP (T : Nat → Nat → Nat) (n : Nat) (set : List Int) : Prop where
 rng : ∀ i (h : i < set.length), 0 ≤ set[i] ∧ set[i] < (n : Int)
 asc : ∀ i (h : i + 1 < set.length), set[i] < set[i + 1]
 mul : ∀ x ∈ set, ∀ y ∈ set, ((T x.toNat y.toNat : Nat) : Int) ∈ set
open Classical in
noncomputable def closB (T : Nat → Nat → Nat) (n : Nat) (set : List Int) : Bool := decide (ClosP T n set)
open Classical in
theorem closB_t {T : Nat → Nat → Nat} {n : Nat} {set : List Int} (h : ClosP T n set) : closB T n set = true := by unfold closB; exact decide_eq_true h
open Classical in
theorem closB_f {T : Nat → Nat → Nat} {n : Nat} {set : List Int} (h : ¬ ClosP T n set) : closB T n set = false := by unfold closB; exact decide_eq_false h
def inR (n : Nat) (l : List Int) : List T := tab n fun j => .bool (decide ((j : Int) ∈ l))
@[simp] theorem inR_len (n : Nat) (l : List Int) : (inR n l).length = n := by simp [inR]
theorem inR_get {n : Nat} (l : List Int) {j : Nat} (h : j < n) : (inR n l)[j]? = some (.bool (decide ((j : Int) ∈ l))) := by
 unfold inR; rw [tab_get _ h]
theorem inR_set {n : Nat} {l : List Int} {k : Nat} (hk : k < l.length) {x : Nat} (hx : l[k] = (x : Int)) : (inR n (l.take k)).set x (.bool true) = inR n (l.take (k + 1)) := by
 unfold inR
 rw [tab_set]
 refine tab_congr (fun j hj => ?_)
 rw [List.take_succ_eq_append_getElem hk, hx]
 by_cases e : j = x
 ·subst e; simp
 ·have : (j : Int) ≠ (x : Int) := by omega
  rw [if_neg e]
  simp [this]
theorem inR_nil (n : Nat) : inR n [] = tab n fun _ => .bool false := by
 unfold inR
 exact tab_congr (fun j _ => by simp)
set_option maxRecDepth 100000 in
set_option maxHeartbeats 16000000 in
theorem closed_fn (tb : List (List Int)) (n : Nat) (T : Nat → Nat → Nat) (ht : TbL tb n T) (hn : n ≤ 1000) (set : List Int) (hs : set.length ≤ 100000) :
  FnA Tryz.prog 68 [.t 0 (rows tb), .t 0 (ints set)] (.t 2 (.bool (closB T n set))) := by
 have htl := ht.len
 refine fn_intro Tryz.func68 rfl (by simp [Tryz.f68]) ?_
 rw [show Tryz.f68.ntmps = 72 from rfl, show Tryz.f68.results = #[.tmp 4] from rfl]
 refine awp_seqR fun K hK => ?_
 simp (disch := omega) [ints, rows, scal, wr64, wr8]
 and_intros <;> try first | apply hK | omega | rfl | simp <;> omega
 refine awp_seqR fun K hK => ?_
 simp (disch := omega) [ints, rows, scal, wr64, wr8, rows]
 and_intros <;> try first | apply hK | omega | rfl | simp <;> omega
 refine awp_seq ?_
 refine awp_seqR fun K hK => ?_
 simp (disch := omega) [ints, rows, scal, wr64, wr8, ints]
 and_intros <;> try first | apply hK | omega | rfl | simp <;> omega
 refine awp_block ?_
 refine awp_loop (fun k : Nat => mkS [(0, .t 0 (rows tb)), (1, .t 0 (ints set)), (5, .own 0 n), (15, .t 0 (ints set)), (16, .t 2 (.int .i64 set.length)), (17, .t 2 (.int .i64 k))] [(0, .row 4 1 2 (inR n (set.take k)))] 1 72 [.any, .any]) (fun k => k ≤ set.length ∧ (∀ i (h : i < set.length), i < k → 0 ≤ set[i] ∧ set[i] < (n : Int)) ∧ ∀ i (h : i + 1 < set.length), i + 1 < k → set[i] < set[i + 1]) (fun k => set.length - k) ?_ ?_
 ·refine ⟨0, ⟨by omega, fun i h h2 => by omega, fun i h h2 => by omega⟩, ?_⟩
  rw [List.take_zero, inR_nil]
  refine wk_list [(0, some 3000000)] rfl ?_ ?_ ?_ ?_
  all_goals try simp [ints, rep_tab, rows, ints, htl]
 rintro k ⟨hk, hr, ha⟩
 refine awp_seqR fun K hK => ?_
 simp (disch := omega) [ints, rows, scal, wr64, wr8]
 and_intros <;> try first | apply hK | omega | rfl | simp <;> omega
 refine awp_seq ?_
 by_cases hkl : k < set.length
 ·have hfail : (¬ (0 ≤ set[k] ∧ set[k] < (n : Int)) ∨ ∃ h : 0 < k, set[k] ≤ set[k - 1]'(by omega)) → closB T n set = false := fun h => closB_f (fun hc => by
   rcases h with h | ⟨h0, h⟩
   ·exact h (hc.rng k hkl)
   ·have h2 := hc.asc (k - 1) (by omega)
    have : set[k - 1 + 1]'(by omega) = set[k] := by congr 1; omega
    rw [this] at h2
    omega)
  refine awp_cond (b := true) (p := 2) (by simp [scal, hkl] <;> omega) ?_
  refine awp_skip ?_
  show awp _ _ _ _
  refine awp_seq ?_
  refine awp_block ?_
  refine awp_seqR fun K hK => ?_
  simp (disch := omega) [ints, rows, scal, wr64, wr8, ints, hkl]
  and_intros <;> try first | apply hK | omega | rfl | simp <;> omega
  refine awp_seq ?_
  by_cases e1 : set[k] < 0
  ·have hf := hfail (.inl (by omega))
   refine awp_seqR fun K hK => ?_
   simp (disch := omega) [ints, rows, scal, wr64, wr8, e1]
   and_intros <;> try first | apply hK | omega | rfl | simp <;> omega
   refine awp_cond (b := true) (p := 2) (by simp [scal, e1] <;> omega) ?_
   refine awp_seqR fun K hK => ?_
   simp (disch := omega) [ints, rows, scal, wr64, wr8]
   and_intros <;> try first | apply hK | omega | rfl | simp <;> omega
   refine awp_ret ?_
   refine ⟨⟨.inr rfl, _, [], rfl, trivial, trivial, by simp [hf], ?_⟩, by simp [hf]⟩
   simp [hf]
  by_cases e2 : (n : Int) ≤ set[k]
  ·have hf := hfail (.inl (by omega))
   refine awp_seqR fun K hK => ?_
   simp (disch := omega) [ints, rows, scal, wr64, wr8, e1, e2, rows, htl]
   and_intros <;> try first | apply hK | omega | rfl | simp <;> omega
   refine awp_cond (b := true) (p := 2) (by simp [scal, e2] <;> omega) ?_
   refine awp_seqR fun K hK => ?_
   simp (disch := omega) [ints, rows, scal, wr64, wr8]
   and_intros <;> try first | apply hK | omega | rfl | simp <;> omega
   refine awp_ret ?_
   refine ⟨⟨.inr rfl, _, [], rfl, trivial, trivial, by simp [hf], ?_⟩, by simp [hf]⟩
   simp [hf]
  obtain ⟨x, hx⟩ : ∃ x : Nat, set[k] = (x : Int) := ⟨set[k].toNat, by omega⟩
  have hxn : x < n := by omega
  have e1' : ¬ (x : Int) < 0 := by omega
  have e2' : ¬ (n : Int) ≤ (x : Int) := by omega
  have hset := inR_set (n := n) hkl hx
  by_cases h0 : k = 0
  ·subst h0
   have hset0 : (inR n []).set x (.bool true) = inR n (set.take 1) := hset
   refine awp_seqR fun K hK => ?_
   simp (disch := omega) [ints, rows, scal, wr64, wr8, hx, e1', e2', rows, htl]
   and_intros <;> try first | apply hK | omega | rfl | simp <;> omega
   refine awp_cond (b := false) (p := 2) (by simp [scal] <;> omega) ?_
   refine awp_skip ?_
   show awp _ _ _ _
   refine awp_R fun K hK => ?_
   simp (disch := omega) [ints, rows, scal, wr64, wr8, hx, hxn, hset]
   and_intros <;> try first | apply hK | omega | rfl | simp <;> omega
   show awp _ _ _ _
   refine awp_R fun K hK => ?_
   simp (disch := omega) [ints, rows, scal, wr64, wr8]
   (repeat' first | apply hK | apply And.intro) <;> try first | omega | rfl | (simp <;> omega)
   refine ⟨1, ⟨by omega, fun i h h2 => ?_, fun i h h2 => by omega⟩, by omega, ?_⟩
   ·obtain rfl : i = 0 := by omega
    omega
   refine wk_list [(0, some 0)] rfl ?_ ?_ ?_ ?_
   all_goals try simp [ints, hset0, rows, ints]
  ·obtain ⟨j, rfl⟩ : ∃ j, k = j + 1 := ⟨k - 1, by omega⟩
   have hjl : j < set.length := by omega
   have h0' : (0 : Int) < ((j : Int) + 1) := by omega
   by_cases e3 : (x : Int) ≤ set[j]
   ·have hf := hfail (.inr ⟨by omega, by rw [hx]; simpa using e3⟩)
    refine awp_seqR fun K hK => ?_
    simp (disch := omega) [ints, rows, scal, wr64, wr8, hx, e1', e2', e3, h0', rows, ints, htl, hjl]
    and_intros <;> try first | apply hK | omega | rfl | simp <;> omega
    refine awp_cond (b := true) (p := 2) (by simp [scal, e3] <;> omega) ?_
    refine awp_seqR fun K hK => ?_
    simp (disch := omega) [ints, rows, scal, wr64, wr8]
    and_intros <;> try first | apply hK | omega | rfl | simp <;> omega
    refine awp_ret ?_
    refine ⟨⟨.inr rfl, _, [], rfl, trivial, trivial, by simp [hf], ?_⟩, by simp [hf]⟩
    simp [hf]
   ·refine awp_seqR fun K hK => ?_
    simp (disch := omega) [ints, rows, scal, wr64, wr8, hx, e1', e2', e3, h0', rows, ints, htl, hjl]
    and_intros <;> try first | apply hK | omega | rfl | simp <;> omega
    refine awp_cond (b := false) (p := 2) (by simp [scal, e3] <;> omega) ?_
    refine awp_skip ?_
    show awp _ _ _ _
    refine awp_R fun K hK => ?_
    simp (disch := omega) [ints, rows, scal, wr64, wr8, hx, hxn, hset]
    and_intros <;> try first | apply hK | omega | rfl | simp <;> omega
    show awp _ _ _ _
    refine awp_R fun K hK => ?_
    simp (disch := omega) [ints, rows, scal, wr64, wr8]
    (repeat' first | apply hK | apply And.intro) <;> try first | omega | rfl | (simp <;> omega)
    refine ⟨j + 1 + 1, ⟨by omega, fun i h h2 => ?_, fun i h h2 => ?_⟩, by omega, ?_⟩
    ·by_cases hi : i = j + 1
     ·subst hi; omega
     ·exact hr i h (by omega)
    ·by_cases hi : i = j
     ·subst hi; rw [hx]; omega
     ·exact ha i h (by omega)
    refine wk_list [(0, some 0)] rfl ?_ ?_ ?_ ?_
    all_goals try simp [ints, hset, rows, ints]
 obtain rfl : k = set.length := by omega
 have hr2 : ∀ i (h : i < set.length), 0 ≤ set[i] ∧ set[i] < (n : Int) := fun i h => hr i h h
 have ha2 : ∀ i (h : i + 1 < set.length), set[i] < set[i + 1] := fun i h => ha i h h
 clear hr ha
 rw [List.take_length]
 refine awp_cond (b := false) (p := 2) (by simp [scal] <;> omega) ?_
 refine awp_exit ?_
 show awp _ _ _ _
 refine awp_seq ?_
 refine awp_seqR fun K hK => ?_
 simp (disch := omega) [ints, rows, scal, wr64, wr8, ints]
 and_intros <;> try first | apply hK | omega | rfl | simp <;> omega
 refine awp_block ?_
 refine awp_loop (fun k : Nat => mkS [(0, .t 0 (rows tb)), (1, .t 0 (ints set)), (5, .own 0 n), (47, .t 0 (ints set)), (48, .t 2 (.int .i64 set.length)), (49, .t 2 (.int .i64 k))] [(0, .row 4 1 2 (inR n set))] 1 72 [.any, .any]) (fun k => k ≤ set.length ∧ ∀ x ∈ set.take k, ∀ y ∈ set, ((T x.toNat y.toNat : Nat) : Int) ∈ set) (fun k => set.length - k) ?_ ?_
 ·refine ⟨0, ⟨by omega, fun x hx => by simp at hx⟩, ?_⟩
  refine wk_list [(0, some 0)] rfl ?_ ?_ ?_ ?_
  all_goals try simp [ints, rows, ints]
 rintro k ⟨hk, hm⟩
 refine awp_seqR fun K hK => ?_
 simp (disch := omega) [ints, rows, scal, wr64, wr8]
 and_intros <;> try first | apply hK | omega | rfl | simp <;> omega
 refine awp_seq ?_
 by_cases hkl : k < set.length
 case neg =>
  obtain rfl : k = set.length := by omega
  rw [List.take_length] at hm
  have ht := closB_t (T := T) (n := n) (set := set) ⟨hr2, ha2, hm⟩
  refine awp_cond (b := false) (p := 2) (by simp [scal] <;> omega) ?_
  refine awp_exit ?_
  show awp _ _ _ _
  refine awp_seqR fun K hK => ?_
  simp (disch := omega) [ints, rows, scal, wr64, wr8]
  and_intros <;> try first | apply hK | omega | rfl | simp <;> omega
  refine awp_ret ?_
  refine ⟨⟨.inr rfl, _, [], rfl, trivial, trivial, by simp [ht], ?_⟩, by simp [ht]⟩
  simp [ht]
 obtain ⟨x, hx⟩ : ∃ x : Nat, set[k] = (x : Int) := ⟨set[k].toNat, by have := hr2 k hkl; omega⟩
 have hxn : x < n := by have := hr2 k hkl; omega
 refine awp_cond (b := true) (p := 2) (by simp [scal, hkl] <;> omega) ?_
 refine awp_skip ?_
 show awp _ _ _ _
 refine awp_seq ?_
 refine awp_block ?_
 refine awp_seqR fun K hK => ?_
 simp (disch := omega) [ints, rows, scal, wr64, wr8, ints, hkl, hx]
 and_intros <;> try first | apply hK | omega | rfl | simp <;> omega
 refine awp_seqR fun K hK => ?_
 simp (disch := omega) [ints, rows, scal, wr64, wr8, ints]
 and_intros <;> try first | apply hK | omega | rfl | simp <;> omega
 refine awp_block ?_
 refine awp_loop (fun j : Nat => mkS [(0, .t 0 (rows tb)), (1, .t 0 (ints set)), (5, .own 0 n), (9, .t 2 (.int .i64 (x : Nat))), (47, .t 0 (ints set)), (48, .t 2 (.int .i64 set.length)), (49, .t 2 (.int .i64 k)), (53, .t 0 (ints set)), (54, .t 2 (.int .i64 set.length)), (55, .t 2 (.int .i64 j))] [(0, .row 4 1 2 (inR n set))] 1 72 [.any, .any]) (fun j => j ≤ set.length ∧ ∀ y ∈ set.take j, ((T x y.toNat : Nat) : Int) ∈ set) (fun j => set.length - j) ?_ ?_
 ·refine ⟨0, ⟨by omega, fun x hx => by simp at hx⟩, ?_⟩
  refine wk_list [(0, some 0)] rfl ?_ ?_ ?_ ?_
  all_goals try simp [ints, rows, ints]
 rintro j ⟨hj, hmj⟩
 refine awp_seqR fun K hK => ?_
 simp (disch := omega) [ints, rows, scal, wr64, wr8]
 and_intros <;> try first | apply hK | omega | rfl | simp <;> omega
 refine awp_seq ?_
 by_cases hjl : j < set.length
 ·obtain ⟨y, hy⟩ : ∃ y : Nat, set[j] = (y : Int) := ⟨set[j].toNat, by have := hr2 j hjl; omega⟩
  have hyn : y < n := by have := hr2 j hjl; omega
  obtain ⟨g1, g2, g3⟩ := ht.get hxn hyn
  have hlt := ht.lt x y hxn hyn
  have hin := inR_get set hlt
  refine awp_cond (b := true) (p := 2) (by simp [scal, hjl] <;> omega) ?_
  refine awp_skip ?_
  show awp _ _ _ _
  refine awp_seq ?_
  refine awp_block ?_
  refine awp_seqR fun K hK => ?_
  simp (disch := omega) [ints, rows, scal, wr64, wr8, ints, hjl, hy]
  (repeat' first | apply hK | apply And.intro) <;> try first | omega | rfl | (simp <;> omega)
  by_cases e : ((T x y : Nat) : Int) ∈ set
  ·rw [decide_eq_true e] at hin
   refine awp_seqR fun K hK => ?_
   simp (disch := omega) [ints, rows, scal, wr64, wr8, rows, ints, g1, g2, g3, hin]
   and_intros <;> try first | apply hK | omega | rfl | simp <;> omega
   refine awp_cond (b := false) (p := 2) (by simp [scal] <;> omega) ?_
   refine awp_skip ?_
   show awp _ _ _ _
   refine awp_R fun K hK => ?_
   simp (disch := omega) [ints, rows, scal, wr64, wr8]
   (repeat' first | apply hK | apply And.intro) <;> try first | omega | rfl | (simp <;> omega)
   refine ⟨j + 1, ⟨by omega, fun z hz => ?_⟩, by omega, ?_⟩
   ·rw [List.take_succ_eq_append_getElem hjl] at hz
    rcases List.mem_append.1 hz with hz | hz
    ·exact hmj z hz
    ·simp at hz; subst hz; rw [hy]; exact e
   refine wk_list [(0, some 0)] rfl ?_ ?_ ?_ ?_
   all_goals try simp [ints, rows, ints]
  ·have hf : closB T n set = false := closB_f (fun hc => e (by
    have := hc.mul set[k] (List.getElem_mem hkl) set[j] (List.getElem_mem hjl)
    rw [hx, hy] at this
    exact this))
   rw [decide_eq_false e] at hin
   refine awp_seqR fun K hK => ?_
   simp (disch := omega) [ints, rows, scal, wr64, wr8, rows, ints, g1, g2, g3, hin]
   and_intros <;> try first | apply hK | omega | rfl | simp <;> omega
   refine awp_cond (b := true) (p := 2) (by simp [scal] <;> omega) ?_
   refine awp_seqR fun K hK => ?_
   simp (disch := omega) [ints, rows, scal, wr64, wr8]
   and_intros <;> try first | apply hK | omega | rfl | simp <;> omega
   refine awp_ret ?_
   refine ⟨⟨.inr rfl, _, [], rfl, trivial, trivial, by simp [hf], ?_⟩, by simp [hf]⟩
   simp [hf]
 ·obtain rfl : j = set.length := by omega
  rw [List.take_length] at hmj
  refine awp_cond (b := false) (p := 2) (by simp [scal] <;> omega) ?_
  refine awp_exit ?_
  show awp _ _ _ _
  refine awp_R fun K hK => ?_
  simp (disch := omega) [ints, rows, scal, wr64, wr8]
  (repeat' first | apply hK | apply And.intro) <;> try first | omega | rfl | (simp <;> omega)
  refine ⟨k + 1, ⟨by omega, fun z hz => ?_⟩, by omega, ?_⟩
  ·rw [List.take_succ_eq_append_getElem hkl] at hz
   rcases List.mem_append.1 hz with hz | hz
   ·exact hm z hz
   ·simp at hz; subst hz; rw [hx]; exact hmj
  refine wk_list [(0, some 0)] rfl ?_ ?_ ?_ ?_
  all_goals try simp [ints, rows, ints]
def empB (R : List (List Int)) : Bool := R.any fun l => decide (l.length = 0)
def empI : List (List Int) → Nat → Int
 | [], k => -1
 | l :: r, k => if l.length = 0 then (k : Int) else empI r (k + 1)
theorem empI_B : ∀ (R : List (List Int)) (k : Nat), decide (0 ≤ empI R k) = empB R
 | [], k => rfl
 | l :: r, k => by
  unfold empI
  show _ = (decide (l.length = 0) || empB r)
  by_cases h : l.length = 0
  ·rw [if_pos h, decide_eq_true h, Bool.true_or]
   exact decide_eq_true (by omega)
  ·rw [if_neg h, empI_B r, decide_eq_false h, Bool.false_or]
set_option maxRecDepth 100000 in
set_option maxHeartbeats 4000000 in
theorem empty1_fn (l : List Int) : FnA Tryz.prog 72 [.t 0 (ints l)] (.t 2 (.bool (decide (l.length = 0)))) := by
 refine fn_intro Tryz.func72 rfl (by simp [Tryz.f72]) ?_
 rw [show Tryz.f72.ntmps = 6 from rfl, show Tryz.f72.results = #[.tmp 2] from rfl]
 refine awp_seqR fun K hK => ?_
 simp (disch := omega) [ints, rows, scal, wr64, wr8]
 and_intros <;> try first | apply hK | omega | rfl | simp <;> omega
 refine awp_seqR fun K hK => ?_
 simp (disch := omega) [ints, rows, scal, wr64, wr8, ints]
 and_intros <;> try first | apply hK | omega | rfl | simp <;> omega
 refine awp_ret ?_
 refine ⟨⟨.inr rfl, _, [], rfl, trivial, trivial, by simp, ?_⟩, by simp⟩
 simp
 all_goals (by_cases h : l = [] <;> simp [h])
set_option maxRecDepth 100000 in
set_option maxHeartbeats 8000000 in
theorem empIdx_fn (R : List (List Int)) (hR : R.length ≤ 1000) : FnA Tryz.prog 103 [.t 0 (rows R), .fn 72 []] (.t 2 (.int .i64 (empI R 0))) := by
 refine fn_intro Tryz.func103 rfl (by simp [Tryz.f103]) ?_
 rw [show Tryz.f103.ntmps = 19 from rfl, show Tryz.f103.results = #[.tmp 4] from rfl]
 refine awp_seqR fun K hK => ?_
 simp (disch := omega) [ints, rows, scal, wr64, wr8]
 and_intros <;> try first | apply hK | omega | rfl | simp <;> omega
 refine awp_seq ?_
 refine awp_seqR fun K hK => ?_
 simp (disch := omega) [ints, rows, scal, wr64, wr8, rows]
 and_intros <;> try first | apply hK | omega | rfl | simp <;> omega
 refine awp_block ?_
 refine awp_loop (fun k : Nat => mkS [(0, .t 0 (rows R)), (1, .fn 72 []), (7, .t 2 (.int .i64 R.length)), (8, .t 2 (.int .i64 (k : Nat)))] [] 0 19 [.any, .any]) (fun k => k ≤ R.length ∧ empI R 0 = empI (R.drop k) k) (fun k => R.length - k) ?_ ?_
 ·refine ⟨0, ⟨by omega, rfl⟩, ?_⟩
  refine wk_list [] rfl ?_ ?_ ?_ ?_
  all_goals try simp [ints, rows]
 rintro k ⟨hk, hid⟩
 refine awp_seqR fun K hK => ?_
 simp (disch := omega) [ints, rows, scal, wr64, wr8]
 and_intros <;> try first | apply hK | omega | rfl | simp <;> omega
 refine awp_seq ?_
 by_cases hkn : k < R.length
 ·have h1 := empty1_fn R[k]
  rw [List.drop_eq_getElem_cons hkn, empI] at hid
  refine awp_cond (b := true) (p := 2) (by simp [scal, hkn] <;> omega) ?_
  refine awp_skip ?_
  show awp _ _ _ _
  refine awp_seq ?_
  refine awp_block ?_
  refine awp_seqR fun K hK => ?_
  simp (disch := omega) [ints, rows, scal, wr64, wr8]
  and_intros <;> try first | apply hK | omega | rfl | simp <;> omega
  refine awp_seqR fun K hK => ?_
  simp (disch := omega) [ints, rows, scal, wr64, wr8, rows, hkn]
  (repeat' apply And.intro)
  all_goals (try omega)
  refine call_rule (caps := []) (h1) [] [] 2 rfl rfl rfl (by simp) (by first | assumption | kernel_rfl) (by simp) ?_ ?_ (by simp) rfl (by simp) trivial (by simp [hkn]) ?_
  ·simp [scal, rows, ints, hkn]
  ·simp [scal, rows, ints, hkn]
  simp (disch := omega) [ints, rows, scal, wr64, wr8, rows]
  (repeat' first | apply hK | apply And.intro) <;> try first | omega | rfl | (simp <;> omega)
  by_cases e : R[k].length = 0
  ·rw [if_pos e] at hid
   have e' : R[k] = [] := List.length_eq_zero_iff.1 e
   refine awp_cond (b := true) (p := 2) (by simp [scal, e'] <;> omega) ?_
   refine awp_seqR fun K hK => ?_
   simp (disch := omega) [ints, rows, scal, wr64, wr8]
   and_intros <;> try first | apply hK | omega | rfl | simp <;> omega
   refine awp_ret ?_
   refine ⟨⟨.inr rfl, _, [], rfl, trivial, trivial, by simp [hid], ?_⟩, by simp [hid]⟩
   simp [hid]
  ·rw [if_neg e] at hid
   have e' : ¬ R[k] = [] := fun h => e (by rw [h]; rfl)
   refine awp_cond (b := false) (p := 2) (by simp [scal, e'] <;> omega) ?_
   refine awp_skip ?_
   show awp _ _ _ _
   refine awp_R fun K hK => ?_
   simp (disch := omega) [ints, rows, scal, wr64, wr8]
   (repeat' first | apply hK | apply And.intro) <;> try first | omega | rfl | (simp <;> omega)
   refine ⟨k + 1, ⟨by omega, hid⟩, by omega, ?_⟩
   refine wk_list [] rfl ?_ ?_ ?_ ?_
   all_goals try simp [ints, rows]
 ·obtain rfl : k = R.length := by omega
  rw [List.drop_length, empI] at hid
  refine awp_cond (b := false) (p := 2) (by simp [scal] <;> omega) ?_
  refine awp_exit ?_
  show awp _ _ _ _
  refine awp_seqR fun K hK => ?_
  simp (disch := omega) [ints, rows, scal, wr64, wr8]
  and_intros <;> try first | apply hK | omega | rfl | simp <;> omega
  refine awp_ret ?_
  refine ⟨⟨.inr rfl, _, [], rfl, trivial, trivial, by simp [hid], ?_⟩, by simp [hid]⟩
  simp [hid]
set_option maxRecDepth 100000 in
set_option maxHeartbeats 8000000 in
theorem empCon_fn (R : List (List Int)) (hR : R.length ≤ 1000) : FnA Tryz.prog 71 [.t 0 (rows R), .fn 72 []] (.t 2 (.bool (empB R))) := by
 have h1 := empIdx_fn R hR
 have h2 := empI_B R 0
 refine fn_intro Tryz.func71 rfl (by simp [Tryz.f71]) ?_
 rw [show Tryz.f71.ntmps = 9 from rfl, show Tryz.f71.results = #[.tmp 4] from rfl]
 refine awp_seqR fun K hK => ?_
 simp (disch := omega) [ints, rows, scal, wr64, wr8]
 and_intros <;> try first | apply hK | omega | rfl | simp <;> omega
 refine awp_seqR fun K hK => ?_
 simp (disch := omega) [ints, rows, scal, wr64, wr8, rows]
 (repeat' apply And.intro)
 all_goals (try omega)
 refine call_rule (caps := []) (h1) [] [] 2 rfl rfl rfl rfl (by kernel_rfl) (by simp) ?_ trivial trivial rfl trivial trivial (by simp) ?_
 ·simp [scal, rows, ints]
 simp (disch := omega) [ints, rows, scal, wr64, wr8, h2]
 and_intros <;> try first | apply hK | omega | rfl | simp <;> omega
 refine awp_ret ?_
 refine ⟨⟨.inr rfl, _, [], rfl, trivial, trivial, by simp, ?_⟩, by simp⟩
 simp
end Go.Proofs.YtghnmmfkckneaaaGreat.M

namespace Go.Proofs.YtghnmmfkckneaaaGreat.M
open Go.RowKit
set_option linter.unusedVariables false
set_option linter.unusedSimpArgs false

def upB (f : Nat → Bool) (k : Nat) (v : Bool) : Nat → Bool := fun i => if i = k then v else f i
mutual
def Tm.occ (i : Nat) : Tm → Bool
 | .mk o n l => (decide (o = 2) && decide (n.toNat = i)) || occL i l
def occL (i : Nat) : List Tm → Bool
 | [] => false
 | a :: r => a.occ i || occL i r
end
mutual
def Tm.els (i : Nat) : Int × Int → Tm → Bool
 | a, .mk o n l => (decide (o = 2) && decide (n.toNat = i) && !(decide (a.1 = 4) && decide (a.2 = 0))) || elsL i (o, n) l
def elsL (i : Nat) : Int × Int → List Tm → Bool
 | a, [] => false
 | a, t :: r => t.els i a || elsL i a r
end
abbrev BB := (Nat → Bool) × (Nat → Bool)
def raS (s : BB) (h a : Int × Int) : BB := if h.1 = 2 then (upB s.1 h.2.toNat true, upB s.2 h.2.toNat (s.2 h.2.toNat || !(decide (a.1 = 4) && decide (a.2 = 0)))) else s
mutual
theorem vis_ra : ∀ (t : Tm) (s : BB) (a : Int × Int), t.vis raS s a = (fun i => s.1 i || t.occ i, fun i => s.2 i || t.els i a)
 | .mk o n l, s, a => by
  rw [Tm.vis, visL_ra l]
  have h1 : raS s (o, n) a = (fun i => s.1 i || (decide (o = 2) && decide (n.toNat = i)), fun i => s.2 i || (decide (o = 2) && decide (n.toNat = i) && !(decide (a.1 = 4) && decide (a.2 = 0)))) := by
   unfold raS upB
   by_cases h : o = 2
   ·rw [if_pos h]
    congr 1
    ·funext i
     by_cases hi : i = n.toNat
     ·simp [hi, h]
     ·have : ¬ n.toNat = i := fun e => hi e.symm
      simp [hi, this]
    ·funext i
     by_cases hi : i = n.toNat
     ·simp [hi, h]
     ·have : ¬ n.toNat = i := fun e => hi e.symm
      simp [hi, this]
   ·rw [if_neg h]
    simp [h]
  rw [h1]
  congr 1
  ·funext i; rw [Tm.occ, Bool.or_assoc]
  ·funext i; rw [Tm.els, Bool.or_assoc]
theorem visL_ra : ∀ (l : List Tm) (s : BB) (a : Int × Int), visL raS s a l = (fun i => s.1 i || occL i l, fun i => s.2 i || elsL i a l)
 | [], s, a => by
  rw [visL]
  simp [occL, elsL]
 | t :: l, s, a => by
  rw [visL, vis_ra t s a, visL_ra l]
  congr 1
  ·funext i; rw [occL, Bool.or_assoc]
  ·funext i; rw [elsL, Bool.or_assoc]
end
def baL (f : Nat → Bool) : List T := tab 6 fun i => .bool (f i)
@[simp] theorem baL_len (f : Nat → Bool) : (baL f).length = 6 := by simp [baL]
theorem baL_get (f : Nat → Bool) {j : Nat} (h : j < 6) : (scC (baL f))[j]? = some (.t 2 (.bool (f j))) := by
 unfold scC baL
 rw [List.getElem?_map, tab_get _ h]
 rfl
theorem baL_set (f : Nat → Bool) (j : Nat) (v : Bool) : (scC (baL f)).set j (.t 2 (.bool v)) = scC (baL (upB f j v)) := by
 unfold scC baL
 rw [tab_map, tab_map, tab_set]
 refine tab_congr (fun i hi => ?_)
 unfold upB
 by_cases h : i = j
 ·rw [if_pos h, if_pos h]
 ·rw [if_neg h, if_neg h]
theorem baL_sc (f : Nat → Bool) : ∀ x ∈ baL f, scal x = true := fun x hx => by
 unfold baL tab at hx
 obtain ⟨i, -, rfl⟩ := List.mem_map.1 hx
 rfl
set_option maxRecDepth 100000 in
set_option maxHeartbeats 16000000 in
theorem ranges1_fn (s : BB) (t : Tm) (a : Int × Int) (ho : t.ok = true) : FnS Tryz.prog 102 [tmV 0 t, abV a, .ptr 0 0 6, .ptr 1 0 6] [bxO 153 (baL s.1), bxO 153 (baL s.2)] (.tup []) [bxO 153 (baL (raS s (t.op, t.n) a).1), bxO 153 (baL (raS s (t.op, t.n) a).2)] := by
 have hwf : t.wf = true := by rw [ok_eq, Bool.and_eq_true] at ho; exact ho.1
 unfold Tm.wf at hwf
 rw [decide_eq_true_iff] at hwf
 refine fn_intro Tryz.func102 rfl (by simp [Tryz.f102]) ?_
 rw [show Tryz.f102.ntmps = 29 from rfl, show Tryz.f102.results = #[] from rfl]
 refine awp_seqR fun K hK => ?_
 simp (disch := omega) [ints, rows, scal, wr64, wr8, tmV, abV, bxO]
 and_intros <;> try first | apply hK | omega | rfl | simp <;> omega
 refine awp_seqR fun K hK => ?_
 simp (disch := omega) [ints, rows, scal, wr64, wr8, tsTerm, bxO]
 (repeat' first | apply hK | apply And.intro) <;> try first | omega | rfl | (simp <;> omega)
 by_cases e : t.op = 2
 ·obtain ⟨j, hj⟩ : ∃ j : Nat, t.n = (j : Int) := ⟨t.n.toNat, by omega⟩
  have hj6 : j < 6 := by omega
  have hg2 := baL_get s.2 hj6
  have hr : raS s (t.op, t.n) a = (upB s.1 j true, upB s.2 j (s.2 j || !(decide (a.1 = 4) && decide (a.2 = 0)))) := by unfold raS; rw [if_pos e, hj, Int.toNat_natCast]
  rw [hr]
  refine awp_cond (b := true) (p := 2) (by simp [scal, e] <;> omega) ?_
  refine awp_seqR fun K hK => ?_
  simp (disch := omega) [ints, rows, scal, wr64, wr8, bxO, hj, baL_set]
  (repeat' first | apply hK | apply And.intro) <;> try first | omega | rfl | (simp <;> omega)
  cases hb : s.2 j with
  | true =>
   rw [hb] at hg2
   refine awp_RD (by kernel_rfl) (fun K hK => ?_)
   simp (disch := omega) [ints, rows, scal, wr64, wr8, bxO, hj, baL_set, hg2]
   (repeat' first | apply hK | apply And.intro) <;> try first | (show chkD _ _ = true; kernel_rfl) | omega | rfl | (simp <;> omega)
   refine ⟨_, [(0, some 0), (1, some 1)], (by first | rfl | (simp [ints, rows, scal, tmV, abV, bxO, baL_set, scC_wk]; rfl)), ?_, ?_, ?_, ?_⟩
   all_goals try simp [ints, rows, scal, tmV, abV, bxO, baL_set, scC_wk]
  | false =>
   rw [hb] at hg2
   by_cases e1 : a.1 = 4
   ·have e1b : (a.1 != 4) = false := by simpa using e1
    by_cases e2 : a.2 = 0
    ·have e2b : (a.2 != 0) = false := by simpa using e2
     refine awp_RD (by kernel_rfl) (fun K hK => ?_)
     simp (disch := omega) [ints, rows, scal, wr64, wr8, bxO, hj, baL_set, hg2, e1, e2]
     (repeat' first | apply hK | apply And.intro) <;> try first | (show chkD _ _ = true; kernel_rfl) | omega | rfl | (simp <;> omega)
     refine ⟨_, [(0, some 0), (1, some 1)], (by first | rfl | (simp [ints, rows, scal, tmV, abV, bxO, baL_set, scC_wk, e1, e2]; rfl)), ?_, ?_, ?_, ?_⟩
     all_goals try simp [ints, rows, scal, tmV, abV, bxO, baL_set, scC_wk, e1, e2]
    ·have e2b : (a.2 != 0) = true := by simpa using e2
     refine awp_RD (by kernel_rfl) (fun K hK => ?_)
     simp (disch := omega) [ints, rows, scal, wr64, wr8, bxO, hj, baL_set, hg2, e1, e2, e2b]
     (repeat' first | apply hK | apply And.intro) <;> try first | (show chkD _ _ = true; kernel_rfl) | omega | rfl | (simp <;> omega)
     refine ⟨_, [(0, some 0), (1, some 1)], (by first | rfl | (simp [ints, rows, scal, tmV, abV, bxO, baL_set, scC_wk, e1, e2]; rfl)), ?_, ?_, ?_, ?_⟩
     all_goals try simp [ints, rows, scal, tmV, abV, bxO, baL_set, scC_wk, e1, e2]
   ·have e1b : (a.1 != 4) = true := by simpa using e1
    refine awp_RD (by kernel_rfl) (fun K hK => ?_)
    simp (disch := omega) [ints, rows, scal, wr64, wr8, bxO, hj, baL_set, hg2, e1, e1b]
    (repeat' first | apply hK | apply And.intro) <;> try first | (show chkD _ _ = true; kernel_rfl) | omega | rfl | (simp <;> omega)
    refine ⟨_, [(0, some 0), (1, some 1)], (by first | rfl | (simp [ints, rows, scal, tmV, abV, bxO, baL_set, scC_wk, e1]; rfl)), ?_, ?_, ?_, ?_⟩
    all_goals try simp [ints, rows, scal, tmV, abV, bxO, baL_set, scC_wk, e1]
 ·have hr : raS s (t.op, t.n) a = s := by unfold raS; rw [if_neg e]
  rw [hr]
  refine awp_cond (b := false) (p := 2) (by simp [scal, e] <;> omega) ?_
  refine awp_skip ?_
  refine ⟨⟨.inl rfl, _, [(0, some 0), (1, some 1)], rfl, ?_, ?_, ?_, ?_⟩, ?_⟩
  all_goals simp [tmV, abV, bxO, scC_wk]
def rgV (R : Nat → List Int) (nv i : Nat) (c : AV) : List AV := tab nv fun j => if j < i then .t 2 (ints (R j)) else if j = i then c else .t 2 (.sl 0 [])
section
variable {R : Nat → List Int} {nv i : Nat} {c c' : AV} {H : Nat → Option AObj} {m : Nat → Option Nat} {un : Nat → Prop} {nx : Nat}
@[simp] theorem rgV_len : (rgV R nv i c).length = nv := by simp [rgV]
theorem rgV_get (h : i < nv) : (rgV R nv i c)[i]? = some c := by
 unfold rgV
 rw [tab_get _ h, if_neg (by omega), if_pos rfl]
theorem rgV_set : (rgV R nv i c).set i c' = rgV R nv i c' := by
 unfold rgV
 rw [tab_set]
 refine tab_congr (fun j hj => ?_)
 by_cases h : j = i
 ·rw [if_pos h, if_neg (by omega), if_pos h]
 ·rw [if_neg h]
  by_cases h2 : j < i
  ·rw [if_pos h2, if_pos h2]
  ·rw [if_neg h2, if_neg h, if_neg h2, if_neg h]
theorem rgV_at {j : Nat} {a : AV} (h : (rgV R nv i c)[j]? = some a) : j < nv ∧ a = if j < i then .t 2 (ints (R j)) else if j = i then c else .t 2 (.sl 0 []) := by
 have hl : j < nv := by have := (List.getElem?_eq_some_iff.1 h).1; simpa using this
 unfold rgV at h
 rw [tab_get _ hl] at h
 injection h with h
 exact ⟨hl, h.symm⟩
theorem rgV_wk (hv : wkP H m un nx c c') : wkPs H m un nx (rgV R nv i c) (rgV R nv i c') = True := by
 refine eq_true (wkPs_of (by simp) (fun j a b ha hb => ?_))
 obtain ⟨h1, rfl⟩ := rgV_at ha
 obtain ⟨-, rfl⟩ := rgV_at hb
 by_cases h2 : j < i
 ·rw [if_pos h2, if_pos h2]; exact ⟨rfl, Nat.le_refl _⟩
 ·rw [if_neg h2, if_neg h2]
  by_cases h3 : j = i
  ·rw [if_pos h3, if_pos h3]; exact hv
  ·rw [if_neg h3, if_neg h3]; exact ⟨rfl, Nat.le_refl _⟩
theorem rgV_next (hv : wkP H m un nx c (.t 2 (ints (R i)))) : wkPs H m un nx (rgV R nv i c) (rgV R nv (i + 1) (.t 2 (.sl 0 []))) := by
 refine wkPs_of (by simp) (fun j a b ha hb => ?_)
 obtain ⟨h1, rfl⟩ := rgV_at ha
 obtain ⟨-, rfl⟩ := rgV_at hb
 by_cases h2 : j < i
 ·rw [if_pos h2, if_pos (by omega)]; exact ⟨rfl, Nat.le_refl _⟩
 ·rw [if_neg h2]
  by_cases h3 : j = i
  ·rw [if_pos h3, if_pos (by omega), h3]; exact hv
  ·rw [if_neg h3, if_neg (by omega)]
   by_cases h4 : j = i + 1
   ·rw [if_pos h4]; exact ⟨rfl, Nat.le_refl _⟩
   ·rw [if_neg h4]; exact ⟨rfl, Nat.le_refl _⟩
theorem rgV_init : wkPs H m un nx (List.replicate nv (.t 2 (.sl 0 []))) (rgV R nv 0 (.t 2 (.sl 0 []))) = True := by
 refine eq_true (wkPs_of (by simp) (fun j a b ha hb => ?_))
 obtain ⟨h1, rfl⟩ := rgV_at hb
 rw [List.getElem?_replicate, if_pos h1] at ha
 injection ha with ha
 subst ha
 rw [if_neg (by omega)]
 by_cases h3 : j = 0
 ·rw [if_pos h3]; exact ⟨rfl, Nat.le_refl _⟩
 ·rw [if_neg h3]; exact ⟨rfl, Nat.le_refl _⟩
theorem rgV_T {c : AV} : wkT H un 2 (rgV R nv nv c) ((tab nv R).map ints) = True := by
 refine eq_true ⟨by simp, fun j a t ha ht => ?_⟩
 obtain ⟨h1, rfl⟩ := rgV_at ha
 rw [List.getElem?_map, tab_get _ h1] at ht
 injection ht with ht
 subst ht
 rw [if_pos h1]
 exact ⟨rfl, Nat.le_refl _⟩
end
def rngF (T : Nat → Nat → Nat) (set : List Int) (a b : Tm) (i : Nat) : List Int := set.filter fun x => !(a.occ i || b.occ i) || (a.els i (0, 0) || b.els i (0, 0)) || decide (T x.toNat x.toNat = x.toNat)
def rngL (T : Nat → Nat → Nat) (set : List Int) (a b : Tm) : List (List Int) := tab (max a.gr b.gr) (rngF T set a b)
theorem tsFlags (h : 153 < Tryz.prog.types.size) : (Tryz.prog.types[153]'h).size = 6 := by rfl
theorem baL_init : scC (baL fun _ => false) = [.t 2 (.bool false), .t 2 (.bool false), .t 2 (.bool false), .t 2 (.bool false), .t 2 (.bool false), .t 2 (.bool false)] := rfl
theorem gr_6 : ∀ (t : Tm), t.ok = true → t.gr ≤ 6
 | .mk o n l, hok => by
  obtain ⟨hwf, hl⟩ := ok_wf hok
  have := grL_6 l hl
  rw [Tm.gr]
  split <;> omega
where grL_6 : ∀ (l : List Tm), okL' l = true → grL l ≤ 6
 | [], _ => by rw [grL]; omega
 | a :: l, hok => by
  have hok2 : a.ok = true ∧ okL' l = true := by simpa [okL'] using hok
  have := gr_6 a hok2.1
  have := grL_6 l hok2.2
  rw [grL]; omega
set_option maxRecDepth 100000 in
set_option maxHeartbeats 16000000 in
theorem ranges_fn (tb : List (List Int)) (n : Nat) (T : Nat → Nat → Nat) (ht : TbL tb n T) (hn : n ≤ 1000) (set : List Int) (hs : set.length ≤ 100000) (hr : ∀ i (h : i < set.length), 0 ≤ set[i] ∧ set[i] < (n : Int)) (a b : Tm) (hv : a.val = true ∧ b.val = true) :
  FnA Tryz.prog 70 [.t 0 (rows tb), .t 0 (ints set), idV 0 a b] (.t 2 (rows (rngL T set a b))) := by
 obtain ⟨hao, has⟩ := val_ok hv.1
 obtain ⟨hbo, hbs⟩ := val_ok hv.2
 have hga := gr_6 a hao
 have hgb := gr_6 b hbo
 have hV1 := visit2_fn (S := BB) (L0 := fun s => baL s.1) (L1 := fun s => baL s.2) (ty0 := 153) (ty1 := 153) (c0 := 6) (c1 := 6) (F := 102) (by kernel_rfl) raS (fun s => baL_sc s.1) (fun s => baL_len s.1) (fun s => baL_sc s.2) (fun s => baL_len s.2) ranges1_fn a (fun _ => false, fun _ => false) (0, 0) hao (by omega)
 rw [vis_ra a] at hV1
 have hV2 := visit2_fn (S := BB) (L0 := fun s => baL s.1) (L1 := fun s => baL s.2) (ty0 := 153) (ty1 := 153) (c0 := 6) (c1 := 6) (F := 102) (by kernel_rfl) raS (fun s => baL_sc s.1) (fun s => baL_len s.1) (fun s => baL_sc s.2) (fun s => baL_len s.2) ranges1_fn b (fun i => false || a.occ i, fun i => false || a.els i (0, 0)) (0, 0) hbo (by omega)
 rw [vis_ra b] at hV2
 simp only [Bool.false_or] at hV1 hV2
 have hVs := vars_fn [a, b] (by simp) (pair_ok hv)
 obtain ⟨nv, hnv⟩ : ∃ nv, nv = max a.gr b.gr := ⟨_, rfl⟩
 rw [show grL [a, b] = nv by rw [grL, grL, grL]; omega] at hVs
 have hnv6 : nv ≤ 6 := by omega
 have hi1 : ∀ (H : Nat → Option AObj) (pi : List Nat) (q : Nat) (f : Nat → Bool), inPs H pi q (scC (baL f)) (scC (baL f)) = True := fun H pi q f => scC_in (baL_sc f)
 have ho1 : ∀ (po : List Nat) (q : Nat) (f : Nat → Bool), outVs po q (scC (baL f)) = scC (baL f) := fun po q f => scC_out (baL_sc f)
 refine fn_intro Tryz.func70 rfl (by simp [Tryz.f70]) ?_
 rw [show Tryz.f70.ntmps = 76 from rfl, show Tryz.f70.results = #[.tmp 6] from rfl]
 unfold rngL
 rw [← hnv]
 refine awp_seqR fun K hK => ?_
 simp (disch := omega) [ints, rows, scal, wr64, wr8, idV]
 and_intros <;> try first | apply hK | omega | rfl | simp <;> omega
 refine awp_seqR fun K hK => ?_
 simp (disch := omega) [ints, rows, scal, wr64, wr8, tsFlags]
 and_intros <;> try first | apply hK | omega | rfl | simp <;> omega
 refine awp_seqR fun K hK => ?_
 simp (disch := omega) [ints, rows, scal, wr64, wr8]
 and_intros <;> try first | apply hK | omega | rfl | simp <;> omega
 refine awp_weak (σ' := mkS [(0, .t 0 (rows tb)), (1, .t 0 (ints set)), (5, .ptr 2 0 6), (7, .ptr 0 0 6), (8, .ptr 1 0 6), (9, .fn 102 [.ptr 0 0 6, .ptr 1 0 6])] [(0, bxO 153 (baL fun _ => false)), (1, bxO 153 (baL fun _ => false)), (2, .box 31 [.t 2 (.int .i64 a.op), .t 2 (.int .i64 a.n), .t 0 (.sl 3 (cellsL a.args)), .t 2 (.int .i64 b.op), .t 2 (.int .i64 b.n), .t 0 (.sl 3 (cellsL b.args))])] 3 76 [.any, .any, .any]) ?_ ?_
 ·refine wk_list [(0, some 2000000), (1, some 3000000), (2, some 0)] rfl ?_ ?_ ?_ ?_
  all_goals try simp [ints, bxO, baL_init, rows, idV, tsFlags]
 refine awp_seqR fun K hK => ?_
 simp (disch := omega) [ints, rows, scal, wr64, wr8, tsTerm]
 (repeat' apply And.intro)
 all_goals (try omega)
 refine call_ruleK (caps := []) (hV1) [0, 1] [0, 1] 1 rfl rfl rfl rfl (by kernel_rfl) (by simp) ?_ ?_ (by simp) rfl (by simp) ⟨.inr (.inr ⟨rfl, by simp, by simp⟩), .inr (.inr ⟨rfl, by simp, by simp⟩), trivial⟩ (by simp [tmV, abV, bxO, hi1, ho1]) ?_
 ·simp [scal, rows, ints, tmV, abV, bxO, hi1, ho1]
 ·simp [scal, rows, ints, tmV, abV, bxO, hi1, ho1]
 simp (disch := omega) [ints, rows, scal, wr64, wr8, bxO, ho1]
 and_intros <;> try first | apply hK | omega | rfl | simp <;> omega
 refine awp_seqR fun K hK => ?_
 simp (disch := omega) [ints, rows, scal, wr64, wr8, tsTerm]
 (repeat' apply And.intro)
 all_goals (try omega)
 refine call_ruleK (caps := []) (hV2) [0, 1] [0, 1] 1 rfl rfl rfl rfl (by kernel_rfl) (by simp) ?_ ?_ (by simp) rfl (by simp) ⟨.inr (.inr ⟨rfl, by simp, by simp⟩), .inr (.inr ⟨rfl, by simp, by simp⟩), trivial⟩ (by simp [tmV, abV, bxO, hi1, ho1]) ?_
 ·simp [scal, rows, ints, tmV, abV, bxO, hi1, ho1]
 ·simp [scal, rows, ints, tmV, abV, bxO, hi1, ho1]
 simp (disch := omega) [ints, rows, scal, wr64, wr8, bxO, ho1]
 and_intros <;> try first | apply hK | omega | rfl | simp <;> omega
 refine awp_seqR fun K hK => ?_
 simp (disch := omega) [ints, rows, scal, wr64, wr8, tsTerm, range_6]
 (repeat' apply And.intro)
 all_goals (try omega)
 refine call_rule (caps := []) (hVs) [] [] 2 rfl rfl rfl rfl (by kernel_rfl) (by simp) ?_ trivial trivial rfl trivial trivial (by simp) ?_
 ·simp [scal, rows, ints, cells2]
 simp (disch := omega) [ints, rows, scal, wr64, wr8, bxO]
 and_intros <;> try first | apply hK | omega | rfl | simp <;> omega
 refine awp_seq ?_
 refine awp_seqR fun K hK => ?_
 simp (disch := omega) [ints, rows, scal, wr64, wr8, bxO]
 and_intros <;> try first | apply hK | omega | rfl | simp <;> omega
 refine awp_block ?_
 refine awp_loop (fun i : Nat => mkS [(0, .t 0 (rows tb)), (1, .t 0 (ints set)), (7, .ptr 0 0 6), (8, .ptr 1 0 6), (10, .own 2 nv), (33, .t 2 (.int .i64 nv)), (34, .t 2 (.int .i64 i))] [(0, bxO 153 (baL fun i => a.occ i || b.occ i)), (1, bxO 153 (baL fun i => a.els i (0, 0) || b.els i (0, 0))), (2, .vec 22 (rgV (rngF T set a b) nv i (.t 2 (.sl 0 []))))] 3 76 [.any, .any, .any]) (fun i => i ≤ nv) (fun i => nv - i) ?_ ?_
 ·refine ⟨0, by omega, ?_⟩
  refine wk_list [(0, some 0), (1, some 1), (2, some 16000003)] rfl ?_ ?_ ?_ ?_
  all_goals try simp [ints, bxO, scC_wk, rgV_init, rows]
 intro i hi
 refine awp_seqR fun K hK => ?_
 simp (disch := omega) [ints, rows, scal, wr64, wr8]
 and_intros <;> try first | apply hK | omega | rfl | simp <;> omega
 refine awp_seq ?_
 by_cases hiv : i < nv
 case neg =>
  obtain rfl : i = nv := by omega
  refine awp_cond (b := false) (p := 2) (by simp [scal] <;> omega) ?_
  refine awp_exit ?_
  show awp _ _ _ _
  refine awp_seqR fun K hK => ?_
  simp (disch := omega) [ints, rows, scal, wr64, wr8]
  and_intros <;> try first | apply hK | omega | rfl | simp <;> omega
  refine awp_ret ?_
  refine ⟨⟨.inr rfl, _, [], (by first | rfl | (simp [ints, rows, scal, rgV_T, idV]; rfl)), ?_, ?_, ?_, ?_⟩, ?_⟩
  all_goals try simp [ints, rows, scal, rgV_T, idV]
 refine awp_cond (b := true) (p := 2) (by simp [scal, hiv] <;> omega) ?_
 refine awp_skip ?_
 show awp _ _ _ _
 refine awp_seq ?_
 refine awp_block ?_
 refine awp_seqR fun K hK => ?_
 simp (disch := omega) [ints, rows, scal, wr64, wr8]
 and_intros <;> try first | apply hK | omega | rfl | simp <;> omega
 refine awp_seqR fun K hK => ?_
 simp (disch := omega) [ints, rows, scal, wr64, wr8, ints]
 and_intros <;> try first | apply hK | omega | rfl | simp <;> omega
 refine awp_block ?_
 obtain ⟨P, hP⟩ : ∃ P : Int → Bool, P = fun x => !(a.occ i || b.occ i) || (a.els i (0, 0) || b.els i (0, 0)) || decide (T x.toNat x.toNat = x.toNat) := ⟨_, rfl⟩
 have hRi : rngF T set a b i = set.filter P := by unfold rngF; rw [hP]
 refine awp_loop (fun k : Nat => mkS [(0, .t 0 (rows tb)), (1, .t 0 (ints set)), (7, .ptr 0 0 6), (8, .ptr 1 0 6), (10, .own 2 nv), (11, .t 2 (.int .i64 i)), (33, .t 2 (.int .i64 nv)), (34, .t 2 (.int .i64 i)), (37, .t 0 (ints set)), (38, .t 2 (.int .i64 set.length)), (39, .t 2 (.int .i64 k))] [(0, bxO 153 (baL fun i => a.occ i || b.occ i)), (1, bxO 153 (baL fun i => a.els i (0, 0) || b.els i (0, 0))), (2, .vec 22 (rgV (rngF T set a b) nv i (.own 3 ((set.take k).filter P).length))), (3, .row 3 1 2 (((set.take k).filter P).map (.int .i64)))] 4 76 [.any, .any, .any]) (fun k => k ≤ set.length) (fun k => set.length - k) ?_ ?_
 ·refine ⟨0, by omega, ?_⟩
  refine wk_list [(0, some 0), (1, some 1), (2, some 2), (3, none)] rfl ?_ ?_ ?_ ?_
  all_goals try simp [ints, bxO, scC_wk, rows, ints]
  rw [rgV_wk (by simp [mpOf])]
  trivial
 intro k hk
 have hfl : ((set.take k).filter P).length ≤ k := by
  have := List.length_filter_le P (set.take k)
  rw [List.length_take] at this
  omega
 refine awp_seqR fun K hK => ?_
 simp (disch := omega) [ints, rows, scal, wr64, wr8]
 and_intros <;> try first | apply hK | omega | rfl | simp <;> omega
 refine awp_seq ?_
 by_cases hkl : k < set.length
 case neg =>
  obtain rfl : k = set.length := by omega
  rw [List.take_length]
  refine awp_cond (b := false) (p := 2) (by simp [scal] <;> omega) ?_
  refine awp_exit ?_
  show awp _ _ _ _
  refine awp_R fun K hK => ?_
  simp (disch := omega) [ints, rows, scal, wr64, wr8]
  (repeat' first | apply hK | apply And.intro) <;> try first | omega | rfl | (simp <;> omega)
  refine ⟨i + 1, by omega, by omega, ?_⟩
  refine wk_list [(0, some 0), (1, some 1), (2, some 2)] rfl ?_ ?_ ?_ ?_
  all_goals try simp [ints, bxO, scC_wk, rows, ints]
  refine rgV_next ?_
  rw [hRi]
  simp [ints]
 obtain ⟨x, hx⟩ : ∃ x : Nat, set[k] = (x : Int) := ⟨set[k].toNat, by have := hr k hkl; omega⟩
 have hxn : x < n := by have := hr k hkl; omega
 obtain ⟨g1, g2, g3⟩ := ht.get hxn hxn
 have hgo := baL_get (fun i => a.occ i || b.occ i) (show i < 6 by omega)
 have hge := baL_get (fun i => a.els i (0, 0) || b.els i (0, 0)) (show i < 6 by omega)
 have hPx : P (x : Int) = (!(a.occ i || b.occ i) || (a.els i (0, 0) || b.els i (0, 0)) || decide (T x x = x)) := by rw [hP]; simp
 have htk : (set.take (k + 1)).filter P = (set.take k).filter P ++ (if P (x : Int) = true then [(x : Int)] else []) := by
  rw [List.take_succ_eq_append_getElem hkl, List.filter_append, hx]
  by_cases h : P (x : Int) = true
  ·simp [h]
  ·simp [h]
 have hgv := rgV_get (R := rngF T set a b) (c := .own 3 ((set.take k).filter P).length) hiv
 generalize hoc : (a.occ i || b.occ i) = oc at hgo hPx
 generalize hel : (a.els i (0, 0) || b.els i (0, 0)) = el at hge hPx
 refine awp_cond (b := true) (p := 2) (by simp [scal, hkl] <;> omega) ?_
 refine awp_skip ?_
 show awp _ _ _ _
 refine awp_seq ?_
 refine awp_block ?_
 refine awp_seqR fun K hK => ?_
 simp (disch := omega) [ints, rows, scal, wr64, wr8, ints, hkl, hx]
 and_intros <;> try first | apply hK | omega | rfl | simp <;> omega
 refine awp_seq (awp_mono (Q := fun e σ => e = Exit.normal ∧ Wk σ (mkS [(0, .t 0 (rows tb)), (1, .t 0 (ints set)), (7, .ptr 0 0 6), (8, .ptr 1 0 6), (10, .own 2 nv), (11, .t 2 (.int .i64 i)), (13, .t 2 (.int .i64 (x : Nat))), (33, .t 2 (.int .i64 nv)), (34, .t 2 (.int .i64 i)), (37, .t 0 (ints set)), (38, .t 2 (.int .i64 set.length)), (39, .t 2 (.int .i64 k)), (62, .t 2 (.bool (P (x : Int))))] [(0, bxO 153 (baL fun i => a.occ i || b.occ i)), (1, bxO 153 (baL fun i => a.els i (0, 0) || b.els i (0, 0))), (2, .vec 22 (rgV (rngF T set a b) nv i (.own 3 ((set.take k).filter P).length))), (3, .row 3 1 2 (((set.take k).filter P).map (.int .i64)))] 4 76 [.any, .any, .any])) ?_ ?_)
 ·rw [hPx]
  cases oc with
  | false =>
   refine awp_R fun K hK => ?_
   simp (disch := omega) [ints, rows, scal, wr64, wr8, bxO, hgo]
   (repeat' first | apply hK | apply And.intro) <;> try first | omega | rfl | (simp <;> omega)
   refine wk_list [(0, some 0), (1, some 1), (2, some 2), (3, some 3)] rfl ?_ ?_ ?_ ?_
   all_goals try simp [ints, bxO, scC_wk, rows, ints]
   rw [rgV_wk (by simp [mpOf])]
   trivial
  | true => cases el with
   | true =>
    refine awp_R fun K hK => ?_
    simp (disch := omega) [ints, rows, scal, wr64, wr8, bxO, hgo, hge]
    (repeat' first | apply hK | apply And.intro) <;> try first | omega | rfl | (simp <;> omega)
    refine wk_list [(0, some 0), (1, some 1), (2, some 2), (3, some 3)] rfl ?_ ?_ ?_ ?_
    all_goals try simp [ints, bxO, scC_wk, rows, ints]
    rw [rgV_wk (by simp [mpOf])]
    trivial
   | false =>
    refine awp_R fun K hK => ?_
    simp (disch := omega) [ints, rows, scal, wr64, wr8, bxO, hgo, hge, rows, ints, g1, g2, g3]
    (repeat' first | apply hK | apply And.intro) <;> try first | omega | rfl | (simp <;> omega)
    refine wk_list [(0, some 0), (1, some 1), (2, some 2), (3, some 3)] rfl ?_ ?_ ?_ ?_
    all_goals try simp [ints, bxO, scC_wk, rows, ints]
    ·by_cases h : T x x = x
     ·rw [h]; simp
     ·have h2 : ((T x x : Nat) : Int) ≠ (x : Int) := by omega
      rw [decide_eq_false h]; exact beq_eq_false_iff_ne.2 h2
    rw [rgV_wk (by simp [mpOf])]
    trivial
 rintro e σ ⟨rfl, hw⟩
 refine awp_weak hw ?_
 clear hw
 show awp _ _ _ _
 by_cases hp : P (x : Int) = true
 ·rw [if_pos hp] at htk
  rw [hp]
  refine awp_cond (b := true) (p := 2) (by simp [scal] <;> omega) ?_
  refine awp_R fun K hK => ?_
  simp (disch := omega) [ints, rows, scal, wr64, wr8, hgv, rgV_set]
  and_intros <;> try first | apply hK | omega | rfl | simp <;> omega
  show awp _ _ _ _
  refine awp_R fun K hK => ?_
  simp (disch := omega) [ints, rows, scal, wr64, wr8]
  (repeat' first | apply hK | apply And.intro) <;> try first | omega | rfl | (simp <;> omega)
  refine ⟨k + 1, by omega, by omega, ?_⟩
  rw [htk]
  refine wk_list [(0, some 0), (1, some 1), (2, some 2), (3, some 3)] rfl ?_ ?_ ?_ ?_
  all_goals try simp [ints, bxO, scC_wk, rows, ints, rgV_set]
  rw [rgV_wk (by simp [mpOf])]
  trivial
 ·rw [if_neg hp, List.append_nil] at htk
  have hp : P (x : Int) = false := by simpa using hp
  rw [hp]
  refine awp_cond (b := false) (p := 2) (by simp [scal] <;> omega) ?_
  refine awp_skip ?_
  show awp _ _ _ _
  refine awp_R fun K hK => ?_
  simp (disch := omega) [ints, rows, scal, wr64, wr8]
  (repeat' first | apply hK | apply And.intro) <;> try first | omega | rfl | (simp <;> omega)
  refine ⟨k + 1, by omega, by omega, ?_⟩
  rw [htk]
  refine wk_list [(0, some 0), (1, some 1), (2, some 2), (3, some 3)] rfl ?_ ?_ ?_ ?_
  all_goals try simp [ints, bxO, scC_wk, rows, ints]
  rw [rgV_wk (by simp [mpOf])]
  trivial
end Go.Proofs.YtghnmmfkckneaaaGreat.M

namespace Go.Proofs.YtghnmmfkckneaaaGreat.M
open Go.RowKit
set_option linter.unusedVariables false
set_option linter.unusedSimpArgs false

def idT (N : List Nat) : List T := N.map fun x => .int .i64 (x : Nat)
@[simp] theorem idT_len (N : List Nat) : (idT N).length = N.length := by simp [idT]
theorem idT_rep (n : Nat) : idT (List.replicate n 0) = List.replicate n (.int .i64 0) := by simp [idT]
def nxO (N : List Nat) : AObj := .row 3 1 1 (idT N)
def huO (pa pb : List (Int × Int)) (R : List (List Int)) (m k : Nat) : AObj := .box 100 [.ptr m 0 13, .t 1 (pgT pa), .t 1 (pgT pb), .t 1 (rows R), .own k R.length]
theorem closB_inv {T : Nat → Nat → Nat} {n : Nat} {set : List Int} (h : closB T n set = true) : ClosP T n set := by
 refine Classical.byContradiction fun hc => ?_
 rw [closB_f hc] at h
 cases h
noncomputable def huErr (tb : List (List Int)) (set : List Int) (a b : Tm) : Int :=
 if vErr tb ≠ 0 then vErr tb
 else if closB (tabOf tb) tb.length set = false then 1
 else if ¬ (a.val = true ∧ b.val = true) then 21
 else if idI (tabOf tb) tb.length < 0 ∧ (a.has1 || b.has1) = true then 9 else 0
theorem huErr_0 {tb : List (List Int)} {set : List Int} {a b : Tm} (h : huErr tb set a b = 0) : vErr tb = 0 ∧ ClosP (tabOf tb) tb.length set ∧ (a.val = true ∧ b.val = true) ∧ ¬ (idI (tabOf tb) tb.length < 0 ∧ (a.has1 || b.has1) = true) := by
 unfold huErr at h
 by_cases h1 : vErr tb ≠ 0
 ·rw [if_pos h1] at h; exact absurd h h1
 rw [if_neg h1] at h
 by_cases h2 : closB (tabOf tb) tb.length set = false
 ·rw [if_pos h2] at h; cases h
 rw [if_neg h2] at h
 by_cases h3 : ¬ (a.val = true ∧ b.val = true)
 ·rw [if_pos h3] at h; cases h
 rw [if_neg h3] at h
 by_cases h4 : idI (tabOf tb) tb.length < 0 ∧ (a.has1 || b.has1) = true
 ·rw [if_pos h4] at h; cases h
 exact ⟨by omega, closB_inv (by simpa using h2), Decidable.not_not.1 h3, h4⟩
theorem tsHunt (h : 100 < Tryz.prog.types.size) : (Tryz.prog.types[100]'h).size = 5 := by rfl
theorem pwA_out {po : List Nat} {T : Nat → Nat → Nat} {n : Nat} {u : Nat → Bool} {j : Nat} : outV po 1 (pwA T n u j) = pwA T n u j := by
 unfold pwA
 by_cases h : u j = true
 ·rw [if_pos h]; simp [scal]
 ·rw [if_neg h]; simp [scal]
theorem outVs_map (po : List Nat) (q : Nat) : ∀ l : List AV, outVs po q l = l.map (outV po q)
 | [] => rfl
 | a :: l => by
  show outV po q a :: outVs po q l = _
  rw [outVs_map po q l]
  rfl
theorem mcC_out {po : List Nat} {tb : List (List Int)} {T : Nat → Nat → Nat} {n : Nat} {one : Int} {u : Nat → Bool} : outVs po 1 (mcC tb T n one u) = mcC tb T n one u := by
 rw [outVs_map]
 unfold mcC
 rw [List.map_cons, List.map_cons, tab_map]
 congr 1
 congr 1
 exact tab_congr (fun j _ => pwA_out)
theorem inPs_of {H : Nat → Option AObj} {pi : List Nat} {q : Nat} : ∀ {as' bs : List AV}, as'.length = bs.length → (∀ (i : Nat) a b, as'[i]? = some a → bs[i]? = some b → inP H pi q a b) → inPs H pi q as' bs
 | [], [], _, _ => trivial
 | a :: as', b :: bs, h, hr => ⟨hr 0 a b rfl rfl, inPs_of (by simpa using h) (fun i x y hx hy => hr (i + 1) x y (by simpa using hx) (by simpa using hy))⟩
theorem mcC_in {H : Nat → Option AObj} {pi : List Nat} {tb : List (List Int)} {T : Nat → Nat → Nat} {n : Nat} {one : Int} {u : Nat → Bool} : inPs H pi 1 (mcC tb T n one u) (mcC tb T n one u) = True := by
 refine eq_true (inPs_of rfl (fun i a b ha hb => ?_))
 rw [ha] at hb
 injection hb with hb
 subst hb
 rcases mcC_get ha with ⟨-, rfl⟩ | ⟨-, rfl⟩ | ⟨j, -, -, rfl⟩
 ·exact ⟨rfl, .inr (.inr ⟨rfl, Nat.le_refl _⟩)⟩
 ·exact ⟨rfl, .inl rfl⟩
 ·exact ⟨rfl, .inr (.inr ⟨rfl, Nat.le_refl _⟩)⟩
theorem rng_2 : List.range 2 = [0, 1] := rfl
def ibO (a b : Tm) : AObj := .box 31 [.t 2 (.int .i64 a.op), .t 2 (.int .i64 a.n), .t 0 (.sl 3 (cellsL a.args)), .t 2 (.int .i64 b.op), .t 2 (.int .i64 b.n), .t 0 (.sl 3 (cellsL b.args))]
theorem rngL_len (T : Nat → Nat → Nat) (set : List Int) (a b : Tm) : (rngL T set a b).length = max a.gr b.gr := by simp [rngL]
set_option maxRecDepth 100000 in
set_option maxHeartbeats 16000000 in
theorem newHunt_e1 (tb : List (List Int)) (set : List Int) (a b : Tm) (v1 : vErr tb ≠ 0) : FnA Tryz.prog 34 [.t 1 (rows tb), .t 0 (ints set), idV 0 a b] (.tup [.t 2 .nilp, .t 2 (.int .i64 (vErr tb))]) := by
 have hV := mulVal_fn tb
 refine fn_intro Tryz.func34 rfl (by simp [Tryz.f34]) ?_
 rw [show Tryz.f34.ntmps = 72 from rfl, show Tryz.f34.results = #[.tmp 6, .tmp 7] from rfl]
 refine awp_seqR fun K hK => ?_
 simp (disch := omega) [ints, rows, scal, wr64, wr8, idV]
 and_intros <;> try first | apply hK | omega | rfl | simp <;> omega
 refine awp_seq ?_
 refine awp_seqR fun K hK => ?_
 simp (disch := omega) [ints, rows, scal, wr64, wr8]
 (repeat' apply And.intro)
 all_goals (try omega)
 refine call_rule (caps := []) (hV) [] [] 2 rfl rfl rfl rfl (by kernel_rfl) (by simp) ?_ trivial trivial rfl trivial trivial (by simp) ?_
 ·simp [scal, rows, ints]
 simp (disch := omega) [ints, rows, scal, wr64, wr8]
 and_intros <;> try first | apply hK | omega | rfl | simp <;> omega
 refine awp_seqR fun K hK => ?_
 simp (disch := omega) [ints, rows, scal, wr64, wr8, v1]
 and_intros <;> try first | apply hK | omega | rfl | simp <;> omega
 refine awp_cond (b := true) (p := 2) (by simp [scal, v1] <;> omega) ?_
 refine awp_seqR fun K hK => ?_
 simp (disch := omega) [ints, rows, scal, wr64, wr8]
 and_intros <;> try first | apply hK | omega | rfl | simp <;> omega
 refine awp_ret ?_
 refine ⟨⟨.inr rfl, _, [], rfl, trivial, trivial, by simp [idV], ?_⟩, by simp [idV]⟩
 simp [idV]
set_option maxRecDepth 100000 in
set_option maxHeartbeats 16000000 in
theorem newHunt_e2 (tb : List (List Int)) (set : List Int) (a b : Tm) (hs : set.length ≤ 100000) (v1 : vErr tb = 0) (hcl : closB (tabOf tb) tb.length set = false) : FnA Tryz.prog 34 [.t 1 (rows tb), .t 0 (ints set), idV 0 a b] (.tup [.t 2 .nilp, .t 2 (.int .i64 1)]) := by
 have hV := mulVal_fn tb
 have hI := oValidId_fn a b
 obtain ⟨hl0, hl4⟩ := vErr_len v1
 have hC := closed_fn tb tb.length (tabOf tb) (TbL.of v1) (by omega) set hs
 have hId := mulId_fn tb v1
 refine fn_intro Tryz.func34 rfl (by simp [Tryz.f34]) ?_
 rw [show Tryz.f34.ntmps = 72 from rfl, show Tryz.f34.results = #[.tmp 6, .tmp 7] from rfl]
 refine awp_seqR fun K hK => ?_
 simp (disch := omega) [ints, rows, scal, wr64, wr8, idV]
 and_intros <;> try first | apply hK | omega | rfl | simp <;> omega
 refine awp_seq ?_
 refine awp_seqR fun K hK => ?_
 simp (disch := omega) [ints, rows, scal, wr64, wr8]
 (repeat' apply And.intro)
 all_goals (try omega)
 refine call_rule (caps := []) (hV) [] [] 2 rfl rfl rfl rfl (by kernel_rfl) (by simp) ?_ trivial trivial rfl trivial trivial (by simp) ?_
 ·simp [scal, rows, ints]
 simp (disch := omega) [ints, rows, scal, wr64, wr8]
 and_intros <;> try first | apply hK | omega | rfl | simp <;> omega
 refine awp_seqR fun K hK => ?_
 simp (disch := omega) [ints, rows, scal, wr64, wr8, v1]
 and_intros <;> try first | apply hK | omega | rfl | simp <;> omega
 refine awp_cond (b := false) (p := 2) (by simp [scal, v1] <;> omega) ?_
 refine awp_skip ?_
 show awp _ _ _ _
 refine awp_seq ?_
 refine awp_seqR fun K hK => ?_
 simp (disch := omega) [ints, rows, scal, wr64, wr8]
 (repeat' apply And.intro)
 all_goals (try omega)
 refine call_rule (caps := []) (hC) [] [] 2 rfl rfl rfl rfl (by kernel_rfl) (by simp) ?_ trivial trivial rfl trivial trivial (by simp) ?_
 ·simp [scal, rows, ints]
 simp (disch := omega) [ints, rows, scal, wr64, wr8, hcl]
 and_intros <;> try first | apply hK | omega | rfl | simp <;> omega
 refine awp_cond (b := true) (p := 2) (by simp [scal] <;> omega) ?_
 refine awp_seqR fun K hK => ?_
 simp (disch := omega) [ints, rows, scal, wr64, wr8]
 and_intros <;> try first | apply hK | omega | rfl | simp <;> omega
 refine awp_ret ?_
 refine ⟨⟨.inr rfl, _, [], rfl, trivial, trivial, by simp [idV], ?_⟩, by simp [idV]⟩
 simp [idV]
set_option maxRecDepth 100000 in
set_option maxHeartbeats 16000000 in
theorem newHunt_e3 (tb : List (List Int)) (set : List Int) (a b : Tm) (hs : set.length ≤ 100000) (v1 : vErr tb = 0) (hcl : closB (tabOf tb) tb.length set = true) (e3 : ¬ (a.val = true ∧ b.val = true)) : FnA Tryz.prog 34 [.t 1 (rows tb), .t 0 (ints set), idV 0 a b] (.tup [.t 2 .nilp, .t 2 (.int .i64 21)]) := by
 have hV := mulVal_fn tb
 have hI := oValidId_fn a b
 obtain ⟨hl0, hl4⟩ := vErr_len v1
 have hC := closed_fn tb tb.length (tabOf tb) (TbL.of v1) (by omega) set hs
 have hId := mulId_fn tb v1
 have h21 := vId_1 e3
 rw [h21] at hI
 refine fn_intro Tryz.func34 rfl (by simp [Tryz.f34]) ?_
 rw [show Tryz.f34.ntmps = 72 from rfl, show Tryz.f34.results = #[.tmp 6, .tmp 7] from rfl]
 refine awp_seqR fun K hK => ?_
 simp (disch := omega) [ints, rows, scal, wr64, wr8, idV]
 and_intros <;> try first | apply hK | omega | rfl | simp <;> omega
 refine awp_seq ?_
 refine awp_seqR fun K hK => ?_
 simp (disch := omega) [ints, rows, scal, wr64, wr8]
 (repeat' apply And.intro)
 all_goals (try omega)
 refine call_rule (caps := []) (hV) [] [] 2 rfl rfl rfl rfl (by kernel_rfl) (by simp) ?_ trivial trivial rfl trivial trivial (by simp) ?_
 ·simp [scal, rows, ints]
 simp (disch := omega) [ints, rows, scal, wr64, wr8]
 and_intros <;> try first | apply hK | omega | rfl | simp <;> omega
 refine awp_seqR fun K hK => ?_
 simp (disch := omega) [ints, rows, scal, wr64, wr8, v1]
 and_intros <;> try first | apply hK | omega | rfl | simp <;> omega
 refine awp_cond (b := false) (p := 2) (by simp [scal, v1] <;> omega) ?_
 refine awp_skip ?_
 show awp _ _ _ _
 refine awp_seq ?_
 refine awp_seqR fun K hK => ?_
 simp (disch := omega) [ints, rows, scal, wr64, wr8]
 (repeat' apply And.intro)
 all_goals (try omega)
 refine call_rule (caps := []) (hC) [] [] 2 rfl rfl rfl rfl (by kernel_rfl) (by simp) ?_ trivial trivial rfl trivial trivial (by simp) ?_
 ·simp [scal, rows, ints]
 simp (disch := omega) [ints, rows, scal, wr64, wr8, hcl]
 and_intros <;> try first | apply hK | omega | rfl | simp <;> omega
 refine awp_cond (b := false) (p := 2) (by simp [scal] <;> omega) ?_
 refine awp_skip ?_
 show awp _ _ _ _
 refine awp_seq ?_
 refine awp_seqR fun K hK => ?_
 simp (disch := omega) [ints, rows, scal, wr64, wr8]
 (repeat' apply And.intro)
 all_goals (try omega)
 refine call_rule (caps := []) (hI) [] [] 2 rfl rfl rfl rfl (by kernel_rfl) (by simp) ?_ trivial trivial rfl trivial trivial (by simp) ?_
 ·simp [scal, rows, ints, idV]
 simp (disch := omega) [ints, rows, scal, wr64, wr8]
 and_intros <;> try first | apply hK | omega | rfl | simp <;> omega
 refine awp_cond (b := true) (p := 2) (by simp [scal] <;> omega) ?_
 refine awp_seqR fun K hK => ?_
 simp (disch := omega) [ints, rows, scal, wr64, wr8]
 and_intros <;> try first | apply hK | omega | rfl | simp <;> omega
 refine awp_ret ?_
 refine ⟨⟨.inr rfl, _, [], rfl, trivial, trivial, by simp [idV], ?_⟩, by simp [idV]⟩
 simp [idV]
set_option maxRecDepth 100000 in
set_option maxHeartbeats 16000000 in
theorem newHunt_e4 (tb : List (List Int)) (set : List Int) (a b : Tm) (hs : set.length ≤ 100000) (v1 : vErr tb = 0) (hcl : closB (tabOf tb) tb.length set = true) (e3 : a.val = true ∧ b.val = true) (e4 : idI (tabOf tb) tb.length < 0) (e5 : (a.has1 || b.has1) = true) : FnA Tryz.prog 34 [.t 1 (rows tb), .t 0 (ints set), idV 0 a b] (.tup [.t 2 .nilp, .t 2 (.int .i64 9)]) := by
 have hV := mulVal_fn tb
 have hI := oValidId_fn a b
 obtain ⟨hl0, hl4⟩ := vErr_len v1
 have hC := closed_fn tb tb.length (tabOf tb) (TbL.of v1) (by omega) set hs
 have hId := mulId_fn tb v1
 have h0 := vId_0 e3
 rw [h0] at hI
 have hH := hasOne_fn [a, b] (by simp) (pair_ok e3)
 have hhe : has1L [a, b] = (a.has1 || b.has1) := by rw [has1L, has1L, has1L, Bool.or_false]
 rw [hhe, e5] at hH
 refine fn_intro Tryz.func34 rfl (by simp [Tryz.f34]) ?_
 rw [show Tryz.f34.ntmps = 72 from rfl, show Tryz.f34.results = #[.tmp 6, .tmp 7] from rfl]
 refine awp_seqR fun K hK => ?_
 simp (disch := omega) [ints, rows, scal, wr64, wr8, idV]
 and_intros <;> try first | apply hK | omega | rfl | simp <;> omega
 refine awp_seq ?_
 refine awp_seqR fun K hK => ?_
 simp (disch := omega) [ints, rows, scal, wr64, wr8]
 (repeat' apply And.intro)
 all_goals (try omega)
 refine call_rule (caps := []) (hV) [] [] 2 rfl rfl rfl rfl (by kernel_rfl) (by simp) ?_ trivial trivial rfl trivial trivial (by simp) ?_
 ·simp [scal, rows, ints]
 simp (disch := omega) [ints, rows, scal, wr64, wr8]
 and_intros <;> try first | apply hK | omega | rfl | simp <;> omega
 refine awp_seqR fun K hK => ?_
 simp (disch := omega) [ints, rows, scal, wr64, wr8, v1]
 and_intros <;> try first | apply hK | omega | rfl | simp <;> omega
 refine awp_cond (b := false) (p := 2) (by simp [scal, v1] <;> omega) ?_
 refine awp_skip ?_
 show awp _ _ _ _
 refine awp_seq ?_
 refine awp_seqR fun K hK => ?_
 simp (disch := omega) [ints, rows, scal, wr64, wr8]
 (repeat' apply And.intro)
 all_goals (try omega)
 refine call_rule (caps := []) (hC) [] [] 2 rfl rfl rfl rfl (by kernel_rfl) (by simp) ?_ trivial trivial rfl trivial trivial (by simp) ?_
 ·simp [scal, rows, ints]
 simp (disch := omega) [ints, rows, scal, wr64, wr8, hcl]
 and_intros <;> try first | apply hK | omega | rfl | simp <;> omega
 refine awp_cond (b := false) (p := 2) (by simp [scal] <;> omega) ?_
 refine awp_skip ?_
 show awp _ _ _ _
 refine awp_seq ?_
 refine awp_seqR fun K hK => ?_
 simp (disch := omega) [ints, rows, scal, wr64, wr8]
 (repeat' apply And.intro)
 all_goals (try omega)
 refine call_rule (caps := []) (hI) [] [] 2 rfl rfl rfl rfl (by kernel_rfl) (by simp) ?_ trivial trivial rfl trivial trivial (by simp) ?_
 ·simp [scal, rows, ints, idV]
 simp (disch := omega) [ints, rows, scal, wr64, wr8]
 and_intros <;> try first | apply hK | omega | rfl | simp <;> omega
 refine awp_cond (b := false) (p := 2) (by simp [scal] <;> omega) ?_
 refine awp_skip ?_
 show awp _ _ _ _
 refine awp_seqR fun K hK => ?_
 simp (disch := omega) [ints, rows, scal, wr64, wr8]
 (repeat' apply And.intro)
 all_goals (try omega)
 refine call_rule (caps := []) (hId) [] [] 2 rfl rfl rfl rfl (by kernel_rfl) (by simp) ?_ trivial trivial rfl trivial trivial (by simp) ?_
 ·simp [scal, rows, ints]
 simp (disch := omega) [ints, rows, scal, wr64, wr8]
 and_intros <;> try first | apply hK | omega | rfl | simp <;> omega
 refine awp_weak (σ' := mkS [(0, .t 1 (rows tb)), (1, .t 0 (ints set)), (5, .ptr 0 0 6), (9, .t 2 (.int .i64 (idI (tabOf tb) tb.length)))] [(0, ibO a b)] 1 72 [.any, .any, .any]) ?_ ?_
 ·refine wk_list [(0, some 0)] rfl ?_ ?_ ?_ ?_
  all_goals try simp [ints, ibO, rows, ints]
 refine awp_seq ?_
 refine awp_seqR fun K hK => ?_
 simp (disch := omega) [ints, rows, scal, wr64, wr8, ibO, e4, tsTerm, range_6]
 (repeat' apply And.intro)
 all_goals (try omega)
 refine call_rule (caps := []) (hH) [] [] 2 (by simp [scal, rows, ints, cells2, ibO, e4]) rfl rfl rfl (by kernel_rfl) (by simp) ?_ trivial trivial rfl trivial trivial (by simp) ?_
 ·simp [scal, rows, ints, cells2, ibO, e4]
 simp (disch := omega) [ints, rows, scal, wr64, wr8, ibO, e4]
 and_intros <;> try first | apply hK | omega | rfl | simp <;> omega
 refine awp_cond (b := true) (p := 2) (by simp [scal] <;> omega) ?_
 refine awp_seqR fun K hK => ?_
 simp (disch := omega) [ints, rows, scal, wr64, wr8]
 and_intros <;> try first | apply hK | omega | rfl | simp <;> omega
 refine awp_ret ?_
 refine ⟨⟨.inr rfl, _, [], rfl, trivial, trivial, by simp [idV], ?_⟩, by simp [idV]⟩
 simp [idV]
set_option maxRecDepth 100000 in
set_option maxHeartbeats 16000000 in
theorem newHunt_ok (tb : List (List Int)) (set : List Int) (a b : Tm) (hs : set.length ≤ 100000) (v1 : vErr tb = 0) (hc : ClosP (tabOf tb) tb.length set) (e3 : a.val = true ∧ b.val = true) (e6 : ¬ (idI (tabOf tb) tb.length < 0 ∧ (a.has1 || b.has1) = true)) :
  FnS Tryz.prog 34 [.t 1 (rows tb), .t 0 (ints set), idV 0 a b] [] (.tup [.ptr 0 0 5, .t 2 (.int .i64 0)])
   [huO a.cmp b.cmp (rngL (tabOf tb) set a b) 1 2, mcO tb (tabOf tb) tb.length (idI (tabOf tb) tb.length) (useP [a.cmp, b.cmp] zU), nxO (List.replicate (rngL (tabOf tb) set a b).length 0)] := by
 have hcl := closB_t hc
 have hV := mulVal_fn tb
 have hI := oValidId_fn a b
 obtain ⟨hl0, hl4⟩ := vErr_len v1
 have hC := closed_fn tb tb.length (tabOf tb) (TbL.of v1) (by omega) set hs
 have hId := mulId_fn tb v1
 have h0 := vId_0 e3
 rw [h0] at hI
 have hH := hasOne_fn [a, b] (by simp) (pair_ok e3)
 have hhe : has1L [a, b] = (a.has1 || b.has1) := by rw [has1L, has1L, has1L, Bool.or_false]
 have ht := TbL.of v1
 obtain ⟨hao, has⟩ := val_ok e3.1
 obtain ⟨hbo, hbs⟩ := val_ok e3.2
 have hga := gr_6 a hao
 have hgb := gr_6 b hbo
 have hca := cmp_len a
 have hcb := cmp_len b
 have hR := ranges_fn tb tb.length (tabOf tb) ht (by omega) set hs hc.rng a b e3
 have hRl := rngL_len (tabOf tb) set a b
 have hA := compile_fn a hao (by omega)
 have hB := compile_fn b hbo (by omega)
 have hM := newMachine_fn tb tb.length (tabOf tb) ht (vErr_asc v1) hl0 (by omega) (idI (tabOf tb) tb.length) [a.cmp, b.cmp] (by simp) (fun p hp => by
  simp at hp
  rcases hp with rfl | rfl
  ·exact ⟨by omega, cmp_rng a hao⟩
  ·exact ⟨by omega, cmp_rng b hbo⟩)
 generalize useP [a.cmp, b.cmp] zU = U at hM ⊢
 generalize rngL (tabOf tb) set a b = R at hR hRl ⊢
 generalize a.cmp = pa at hA hM hca ⊢
 generalize b.cmp = pb at hB hM hcb ⊢
 refine fn_intro Tryz.func34 rfl (by simp [Tryz.f34]) ?_
 rw [show Tryz.f34.ntmps = 72 from rfl, show Tryz.f34.results = #[.tmp 6, .tmp 7] from rfl]
 refine awp_seqR fun K hK => ?_
 simp (disch := omega) [ints, rows, scal, wr64, wr8, idV]
 and_intros <;> try first | apply hK | omega | rfl | simp <;> omega
 refine awp_seq ?_
 refine awp_seqR fun K hK => ?_
 simp (disch := omega) [ints, rows, scal, wr64, wr8]
 (repeat' apply And.intro)
 all_goals (try omega)
 refine call_rule (caps := []) (hV) [] [] 2 rfl rfl rfl rfl (by kernel_rfl) (by simp) ?_ trivial trivial rfl trivial trivial (by simp) ?_
 ·simp [scal, rows, ints]
 simp (disch := omega) [ints, rows, scal, wr64, wr8]
 and_intros <;> try first | apply hK | omega | rfl | simp <;> omega
 refine awp_seqR fun K hK => ?_
 simp (disch := omega) [ints, rows, scal, wr64, wr8, v1]
 and_intros <;> try first | apply hK | omega | rfl | simp <;> omega
 refine awp_cond (b := false) (p := 2) (by simp [scal, v1] <;> omega) ?_
 refine awp_skip ?_
 show awp _ _ _ _
 refine awp_seq ?_
 refine awp_seqR fun K hK => ?_
 simp (disch := omega) [ints, rows, scal, wr64, wr8]
 (repeat' apply And.intro)
 all_goals (try omega)
 refine call_rule (caps := []) (hC) [] [] 2 rfl rfl rfl rfl (by kernel_rfl) (by simp) ?_ trivial trivial rfl trivial trivial (by simp) ?_
 ·simp [scal, rows, ints]
 simp (disch := omega) [ints, rows, scal, wr64, wr8, hcl]
 and_intros <;> try first | apply hK | omega | rfl | simp <;> omega
 refine awp_cond (b := false) (p := 2) (by simp [scal] <;> omega) ?_
 refine awp_skip ?_
 show awp _ _ _ _
 refine awp_seq ?_
 refine awp_seqR fun K hK => ?_
 simp (disch := omega) [ints, rows, scal, wr64, wr8]
 (repeat' apply And.intro)
 all_goals (try omega)
 refine call_rule (caps := []) (hI) [] [] 2 rfl rfl rfl rfl (by kernel_rfl) (by simp) ?_ trivial trivial rfl trivial trivial (by simp) ?_
 ·simp [scal, rows, ints, idV]
 simp (disch := omega) [ints, rows, scal, wr64, wr8]
 and_intros <;> try first | apply hK | omega | rfl | simp <;> omega
 refine awp_cond (b := false) (p := 2) (by simp [scal] <;> omega) ?_
 refine awp_skip ?_
 show awp _ _ _ _
 refine awp_seqR fun K hK => ?_
 simp (disch := omega) [ints, rows, scal, wr64, wr8]
 (repeat' apply And.intro)
 all_goals (try omega)
 refine call_rule (caps := []) (hId) [] [] 2 rfl rfl rfl rfl (by kernel_rfl) (by simp) ?_ trivial trivial rfl trivial trivial (by simp) ?_
 ·simp [scal, rows, ints]
 simp (disch := omega) [ints, rows, scal, wr64, wr8]
 and_intros <;> try first | apply hK | omega | rfl | simp <;> omega
 refine awp_weak (σ' := mkS [(0, .t 1 (rows tb)), (1, .t 0 (ints set)), (5, .ptr 0 0 6), (9, .t 2 (.int .i64 (idI (tabOf tb) tb.length)))] [(0, ibO a b)] 1 72 [.any, .any, .any]) ?_ ?_
 ·refine wk_list [(0, some 0)] rfl ?_ ?_ ?_ ?_
  all_goals try simp [ints, ibO, rows, ints]
 generalize idI (tabOf tb) tb.length = one at e6 hM ⊢
 refine awp_seq (awp_mono (Q := fun e σ => e = Exit.normal ∧ Wk σ (mkS [(0, .t 1 (rows tb)), (1, .t 0 (ints set)), (5, .ptr 0 0 6), (9, .t 2 (.int .i64 one))] [(0, ibO a b)] 1 72 [.any, .any, .any])) ?_ ?_)
 ·by_cases e4 : one < 0
  ·have e5 : (a.has1 || b.has1) = false := by
    cases h : (a.has1 || b.has1)
    ·rfl
    ·exact absurd ⟨e4, h⟩ e6
   rw [hhe, e5] at hH
   refine awp_seqR fun K hK => ?_
   simp (disch := omega) [ints, rows, scal, wr64, wr8, ibO, e4, tsTerm, range_6]
   (repeat' apply And.intro)
   all_goals (try omega)
   refine call_rule (caps := []) (hH) [] [] 2 (by simp [scal, rows, ints, cells2, ibO, e4]) rfl rfl rfl (by kernel_rfl) (by simp) ?_ trivial trivial rfl trivial trivial (by simp) ?_
   ·simp [scal, rows, ints, cells2, ibO, e4]
   simp (disch := omega) [ints, rows, scal, wr64, wr8, ibO, e4]
   and_intros <;> try first | apply hK | omega | rfl | simp <;> omega
   refine awp_cond (b := false) (p := 2) (by simp [scal] <;> omega) ?_
   refine awp_skip ?_
   refine ⟨rfl, ?_⟩
   refine wk_list [(0, some 0)] rfl ?_ ?_ ?_ ?_
   all_goals try simp [ints, ibO, rows, ints]
  ·refine awp_seqR fun K hK => ?_
   simp (disch := omega) [ints, rows, scal, wr64, wr8, ibO, e4]
   and_intros <;> try first | apply hK | omega | rfl | simp <;> omega
   refine awp_cond (b := false) (p := 2) (by simp [scal, e4] <;> omega) ?_
   refine awp_skip ?_
   refine ⟨rfl, ?_⟩
   refine wk_list [(0, some 0)] rfl ?_ ?_ ?_ ?_
   all_goals try simp [ints, ibO, rows, ints]
 rintro e σ ⟨rfl, hw⟩
 refine awp_weak hw ?_
 clear hw
 show awp _ _ _ _
 refine awp_seqD (by kernel_rfl) (fun K hK => ?_)
 simp (disch := omega) [ints, rows, scal, wr64, wr8, ibO, tsTerm]
 (repeat' apply And.intro)
 all_goals (try omega)
 refine call_ruleD (caps := []) (hA) [] [] 2 rfl rfl rfl rfl (by kernel_rfl) (by simp) ?_ trivial trivial rfl trivial trivial (by simp) ?_
 ·simp [scal, rows, ints, tmV, ibO]
 simp (disch := omega) [ints, rows, scal, wr64, wr8, ibO, tsTerm]
 (repeat' apply And.intro)
 all_goals (try omega)
 refine call_ruleD (caps := []) (hB) [] [] 2 rfl rfl rfl rfl (by kernel_rfl) (by simp) ?_ trivial trivial rfl trivial trivial (by simp) ?_
 ·simp [scal, rows, ints, tmV, ibO]
 simp (disch := omega) [ints, rows, scal, wr64, wr8, ibO, tsTerm]
 (repeat' apply And.intro)
 all_goals (try omega)
 refine call_ruleD (caps := []) (hR) [] [] 2 rfl rfl rfl rfl (by kernel_rfl) (by simp) ?_ trivial trivial rfl trivial trivial (by simp) ?_
 ·simp [scal, rows, ints, idV, ibO]
 simp (disch := omega) [ints, rows, scal, wr64, wr8, tsHunt]
 and_intros <;> try first | apply hK | (show chkD _ _ = true; kernel_rfl) | omega | rfl | simp <;> omega
 refine awp_weak (σ' := mkS [(0, .t 1 (rows tb)), (9, .t 2 (.int .i64 one)), (10, .ptr 0 0 5)] [(0, .box 100 [.t 2 .nilp, .t 2 (pgT pa), .t 2 (pgT pb), .t 2 (rows R), .t 2 (.sl 0 [])])] 1 72 [.any, .any, .any]) ?_ ?_
 ·refine wk_list [(0, some 11000001)] rfl ?_ ?_ ?_ ?_
  all_goals try simp [ints, ibO, rows, ints, pgT, tsHunt]
 refine awp_seqD (by kernel_rfl) (fun K hK => ?_)
 simp (disch := omega) [ints, rows, scal, wr64, wr8, pgT, rng_2]
 (repeat' apply And.intro)
 all_goals (try omega)
 refine call_ruleD (caps := []) (hM) [] [12000001] 1 rfl rfl rfl rfl (by kernel_rfl) (by simp) ?_ ?_ (by simp) rfl (by simp) ⟨.inl ⟨by omega, by omega⟩, trivial⟩ (by simp [mcO, pgT]) ?_
 ·simp [scal, rows, ints, mcO, pgT]
 ·trivial
 simp (disch := omega) [ints, rows, scal, wr64, wr8, mcO]
 and_intros <;> try first | apply hK | (show chkD _ _ = true; kernel_rfl) | omega | rfl | simp <;> omega
 refine awp_weak (σ' := mkS [(10, .ptr 0 0 5)] [(0, .box 100 [.ptr 1 0 13, .t 2 (pgT pa), .t 2 (pgT pb), .t 2 (rows R), .t 2 (.sl 0 [])]), (1, mcO tb (tabOf tb) tb.length one U)] 2 72 [.any, .any, .any]) ?_ ?_
 ·refine wk_list [(0, some 0), (1, some 12000001)] rfl ?_ ?_ ?_ ?_
  all_goals try simp [ints, mcO, mcC_wk, mcC_out, rows, ints, pgT]
 refine awp_seqR fun K hK => ?_
 simp (disch := omega) [ints, rows, scal, wr64, wr8, rows]
 and_intros <;> try first | apply hK | omega | rfl | simp <;> omega
 refine awp_seqR fun K hK => ?_
 simp (disch := omega) [ints, rows, scal, wr64, wr8]
 and_intros <;> try first | apply hK | omega | rfl | simp <;> omega
 refine awp_ret ?_
 refine ⟨⟨.inr rfl, _, [(0, some 0), (1, some 1), (2, some 6000002)], (by first | rfl | (simp [ints, rows, scal, huO, mcO, mcC_wk, nxO, idT_rep, idV, pgT]; rfl)), ?_, ?_, ?_, ?_⟩, ?_⟩
 all_goals try simp [ints, rows, scal, huO, mcO, mcC_wk, nxO, idT_rep, idV, pgT]

set_option linter.unusedSimpArgs false

def asgF (R : List (List Int)) (N : List Nat) (i : Nat) : Int := (R.getD i []).getD (N.getD i 0) 0
def asg (R : List (List Int)) (N : List Nat) : List Int := tab R.length (asgF R N)
@[simp] theorem asg_len (R : List (List Int)) (N : List Nat) : (asg R N).length = R.length := by simp [asg]
structure NOk (R : List (List Int)) (N : List Nat) : Prop where
 len : N.length = R.length
 lt : ∀ i (h : i < R.length), N.getD i 0 < (R.getD i []).length
theorem NOk.at {R : List (List Int)} {N : List Nat} (h : NOk R N) {i : Nat} (hi : i < R.length) : ∃ (h1 : i < N.length) (h2 : N[i] < R[i].length), R[i][N[i]] = asgF R N i := by
 have h1 : i < N.length := by rw [h.len]; exact hi
 have h3 := h.lt i hi
 have e1 : N.getD i 0 = N[i] := by simp [h1]
 have e2 : R.getD i [] = R[i] := by simp [hi]
 rw [e1, e2] at h3
 refine ⟨h1, h3, ?_⟩
 unfold asgF
 rw [e1, e2]
 simp [h3]
theorem NOk.set {R : List (List Int)} {N : List Nat} (h : NOk R N) {i v : Nat} (hv : ∀ hi : i < R.length, v < (R.getD i []).length) : NOk R (N.set i v) := by
 refine ⟨by simpa using h.len, fun j hj => ?_⟩
 by_cases e : j = i
 ·subst e
  have : (N.set j v).getD j 0 = v := by
   have hl : j < N.length := by rw [h.len]; exact hj
   simp [hl]
  rw [this]
  exact hv hj
 ·have : (N.set i v).getD j 0 = N.getD j 0 := by
   have : i ≠ j := fun e2 => e e2.symm
   simp [List.getD_eq_getElem?_getD, List.getElem?_set_ne this]
  rw [this]
  exact h.lt j hj
def advG (R : List (List Int)) : List Nat → Nat → List Nat × Bool
 | N, 0 => (N, false)
 | N, i + 1 => if N.getD i 0 + 1 < (R.getD i []).length then (N.set i (N.getD i 0 + 1), true) else advG R (N.set i 0) i
def advI (R : List (List Int)) (N : List Nat) : List Nat × Bool := advG R N R.length
theorem advG_ok {R : List (List Int)} : ∀ (i : Nat) {N : List Nat}, NOk R N → i ≤ R.length → NOk R (advG R N i).1
 | 0, N, h, _ => h
 | i + 1, N, h, hi => by
  rw [advG]
  split
  ·rename_i h2
   exact h.set fun _ => h2
  ·exact advG_ok i (h.set fun hi2 => by have := h.lt i hi2; omega) (by omega)
theorem advI_ok {R : List (List Int)} {N : List Nat} (h : NOk R N) : NOk R (advI R N).1 := advG_ok _ h (Nat.le_refl _)
def runH (v1 v2 : List Nat → Nat) (R : List (List Int)) : Nat → Nat → List Nat → Nat × Bool × Bool × List Nat
 | 0, s, N => (s, false, false, N)
 | f + 1, s, N => if v1 N ≠ v2 N then (s + 1, true, true, N) else if (advI R N).2 = true then runH v1 v2 R f (s + 1) (advI R N).1 else (s + 1, false, true, (advI R N).1)
theorem runH_ok {v1 v2 : List Nat → Nat} {R : List (List Int)} : ∀ (f s : Nat) {N : List Nat}, NOk R N → NOk R (runH v1 v2 R f s N).2.2.2 ∧ s ≤ (runH v1 v2 R f s N).1 ∧ (runH v1 v2 R f s N).1 ≤ s + f
 | 0, s, N, h => ⟨h, Nat.le_refl _, Nat.le_refl _⟩
 | f + 1, s, N, h => by
  rw [runH]
  split
  ·exact ⟨h, by simp only; omega, by simp only; omega⟩
  ·split
   ·have := runH_ok (v1 := v1) (v2 := v2) f (s + 1) (advI_ok h)
    exact ⟨this.1, by omega, by omega⟩
   ·exact ⟨advI_ok h, by simp only; omega, by simp only; omega⟩
theorem idT_set (N : List Nat) (i v : Nat) : (idT N).set i (.int .i64 (v : Nat)) = idT (N.set i v) := by
 unfold idT
 rw [List.map_set]
def vaO (R : List (List Int)) (W : Nat → Int) : AObj := .row 3 1 2 (tab R.length fun i => .int .i64 (W i))
set_option maxRecDepth 100000 in
set_option maxHeartbeats 16000000 in
theorem hvalues_fn (pa pb : List (Int × Int)) (R : List (List Int)) (hRl : R.length ≤ 1000) (tb : List (List Int)) (T : Nat → Nat → Nat) (n : Nat) (one : Int) (u : Nat → Bool) (N : List Nat) (hN : NOk R N) :
  FnS Tryz.prog 37 [.ptr 0 0 5] [huO pa pb R 1 2, mcO tb T n one u, nxO N] (.own 3 R.length) [huO pa pb R 1 2, mcO tb T n one u, nxO N, vaO R (asgF R N)] := by
 have hNl := hN.len
 refine fn_intro Tryz.func37 rfl (by simp [Tryz.f37]) ?_
 rw [show Tryz.f37.ntmps = 37 from rfl, show Tryz.f37.results = #[.tmp 2] from rfl]
 refine awp_seqR fun K hK => ?_
 simp (disch := omega) [ints, rows, scal, wr64, wr8]
 and_intros <;> try first | apply hK | omega | rfl | simp <;> omega
 refine awp_seqR fun K hK => ?_
 simp (disch := omega) [ints, rows, scal, wr64, wr8, huO, nxO, hNl]
 and_intros <;> try first | apply hK | omega | rfl | simp <;> omega
 refine awp_seq ?_
 refine awp_seqR fun K hK => ?_
 simp (disch := omega) [ints, rows, scal, wr64, wr8, huO, nxO, hNl]
 and_intros <;> try first | apply hK | omega | rfl | simp <;> omega
 refine awp_block ?_
 refine awp_loop (fun k : Nat => mkS [(0, .ptr 0 0 5), (3, .own 3 R.length), (15, .own 2 R.length), (16, .t 2 (.int .i64 R.length)), (17, .t 2 (.int .i64 k))] [(0, huO pa pb R 1 2), (1, mcO tb T n one u), (2, nxO N), (3, vaO R fun i => if i < k then asgF R N i else 0)] 4 37 [.ptr 0 0 5]) (fun k => k ≤ R.length) (fun k => R.length - k) ?_ ?_
 ·refine ⟨0, by omega, ?_⟩
  refine wk_list [(0, some 0), (1, some 1), (2, some 2), (3, some 6000003)] rfl ?_ ?_ ?_ ?_
  all_goals try simp [ints, huO, mcO, mcC_wk, nxO, vaO, rep_tab, rows, pgT]
 intro k hk
 refine awp_seqR fun K hK => ?_
 simp (disch := omega) [ints, rows, scal, wr64, wr8]
 and_intros <;> try first | apply hK | omega | rfl | simp <;> omega
 refine awp_seq ?_
 by_cases hkl : k < R.length
 ·obtain ⟨h1, h2, h3⟩ := hN.at hkl
  refine awp_cond (b := true) (p := 2) (by simp [scal, hkl] <;> omega) ?_
  refine awp_skip ?_
  show awp _ _ _ _
  refine awp_seq ?_
  refine awp_block ?_
  refine awp_seqR fun K hK => ?_
  simp (disch := omega) [ints, rows, scal, wr64, wr8, nxO, idT, hNl, hkl, h1]
  and_intros <;> try first | apply hK | omega | rfl | simp <;> omega
  refine awp_R fun K hK => ?_
  simp (disch := omega) [ints, rows, scal, wr64, wr8, huO, vaO, rows, ints, hkl, h2, h3]
  and_intros <;> try first | apply hK | omega | rfl | simp <;> omega
  show awp _ _ _ _
  refine awp_R fun K hK => ?_
  simp (disch := omega) [ints, rows, scal, wr64, wr8]
  (repeat' first | apply hK | apply And.intro) <;> try first | omega | rfl | (simp <;> omega)
  refine ⟨k + 1, by omega, by omega, ?_⟩
  refine wk_list [(0, some 0), (1, some 1), (2, some 2), (3, some 3)] rfl ?_ ?_ ?_ ?_
  all_goals try simp [ints, huO, mcO, mcC_wk, nxO, vaO, rows, idT, pgT]
  rw [tab_set]
  refine tab_congr (fun i hi => ?_)
  by_cases e : i = k
  ·subst e; simp
  ·rw [if_neg e]
   by_cases e2 : i < k
   ·rw [if_pos e2, if_pos (by omega)]
   ·rw [if_neg e2, if_neg (by omega)]
 ·obtain rfl : k = R.length := by omega
  refine awp_cond (b := false) (p := 2) (by simp [scal] <;> omega) ?_
  refine awp_exit ?_
  show awp _ _ _ _
  refine awp_seqR fun K hK => ?_
  simp (disch := omega) [ints, rows, scal, wr64, wr8]
  and_intros <;> try first | apply hK | omega | rfl | simp <;> omega
  refine awp_ret ?_
  refine ⟨⟨.inr rfl, _, [(0, some 0), (1, some 1), (2, some 2), (3, some 3)], (by first | rfl | (simp [ints, rows, scal, huO, mcO, mcC_wk, nxO, vaO, idT, pgT]; rfl)), ?_, ?_, ?_, ?_⟩, ?_⟩
  all_goals try simp [ints, rows, scal, huO, mcO, mcC_wk, nxO, vaO, idT, pgT]
  exact tab_congr (fun i hi => by rw [if_pos hi])
set_option maxRecDepth 100000 in
set_option maxHeartbeats 16000000 in
theorem hadvance_fn (pa pb : List (Int × Int)) (R : List (List Int)) (hRl : R.length ≤ 1000) (hRL : ∀ l ∈ R, l.length ≤ 100000) (tb : List (List Int)) (T : Nat → Nat → Nat) (n : Nat) (one : Int) (u : Nat → Bool) (N : List Nat) (hN : NOk R N) :
  FnS Tryz.prog 73 [.ptr 0 0 5] [huO pa pb R 1 2, mcO tb T n one u, nxO N] (.t 2 (.bool (advI R N).2)) [huO pa pb R 1 2, mcO tb T n one u, nxO (advI R N).1] := by
 refine fn_intro Tryz.func73 rfl (by simp [Tryz.f73]) ?_
 rw [show Tryz.f73.ntmps = 45 from rfl, show Tryz.f73.results = #[.tmp 2] from rfl]
 have hNl := hN.len
 refine awp_seqR fun K hK => ?_
 simp (disch := omega) [ints, rows, scal, wr64, wr8]
 and_intros <;> try first | apply hK | omega | rfl | simp <;> omega
 refine awp_seq ?_
 refine awp_seqR fun K hK => ?_
 simp (disch := omega) [ints, rows, scal, wr64, wr8, huO, nxO, hNl]
 and_intros <;> try first | apply hK | omega | rfl | simp <;> omega
 refine awp_block ?_
 refine awp_loop (fun y : Nat × List Nat => mkS [(0, .ptr 0 0 5), (3, .t 2 (.int .i64 ((y.1 : Nat) - 1 : Int)))] [(0, huO pa pb R 1 2), (1, mcO tb T n one u), (2, nxO y.2)] 3 45 [.ptr 0 0 5]) (fun y => y.1 ≤ R.length ∧ NOk R y.2 ∧ advI R N = advG R y.2 y.1) (fun y => y.1) ?_ ?_
 ·refine ⟨(R.length, N), ⟨Nat.le_refl _, hN, rfl⟩, ?_⟩
  refine wk_list [(0, some 0), (1, some 1), (2, some 2)] rfl ?_ ?_ ?_ ?_
  all_goals try simp [ints, huO, mcO, mcC_wk, nxO, rows, pgT]
 rintro ⟨i, M⟩ ⟨hi, hM, hex⟩
 simp only at hi hM hex
 rw [hex]
 have hMl := hM.len
 refine awp_seq ?_
 rcases i with _ | i
 ·refine awp_seqR fun K hK => ?_
  simp (disch := omega) [ints, rows, scal, wr64, wr8]
  and_intros <;> try first | apply hK | omega | rfl | simp <;> omega
  refine awp_cond (b := false) (p := 2) (by simp [scal] <;> omega) ?_
  refine awp_exit ?_
  show awp _ _ _ _
  refine awp_seqR fun K hK => ?_
  simp (disch := omega) [ints, rows, scal, wr64, wr8]
  and_intros <;> try first | apply hK | omega | rfl | simp <;> omega
  refine awp_ret ?_
  refine ⟨⟨.inr rfl, _, [(0, some 0), (1, some 1), (2, some 2)], (by first | rfl | (simp [ints, rows, scal, huO, mcO, mcC_wk, nxO, pgT, advG]; rfl)), ?_, ?_, ?_, ?_⟩, ?_⟩
  all_goals try simp [ints, rows, scal, huO, mcO, mcC_wk, nxO, pgT, advG]
 ·have hil : i < R.length := by omega
  obtain ⟨h1, h2, h3⟩ := hM.at hil
  have e1 : M.getD i 0 = M[i] := by simp [h1]
  have e2 : R.getD i [] = R[i] := by simp [hil]
  have hRi := hRL R[i] (List.getElem_mem hil)
  rw [advG, e1, e2]
  have hset : (idT M).set i (.int .i64 ((M[i] : Nat) + 1 : Int)) = idT (M.set i (M[i] + 1)) := idT_set M i (M[i] + 1)
  have hset2 : (idT (M.set i (M[i] + 1))).set i (.int .i64 0) = idT (M.set i 0) := by rw [← Int.natCast_zero, idT_set, List.set_set]
  have hget : (M.set i (M[i] + 1))[i]? = some (M[i] + 1) := by simp [h1]
  have hget2 : (idT M)[i]? = some (.int .i64 (M[i] : Nat)) := by unfold idT; rw [List.getElem?_map, List.getElem?_eq_getElem h1]; rfl
  have hget3 : (idT (M.set i (M[i] + 1)))[i]? = some (.int .i64 ((M[i] : Nat) + 1 : Int)) := by unfold idT; rw [List.getElem?_map, hget]; rfl
  generalize hm : M[i] = mi at h2 h3 hset hset2 hget hget2 hget3 ⊢
  refine awp_seqR fun K hK => ?_
  simp (disch := omega) [ints, rows, scal, wr64, wr8]
  and_intros <;> try first | apply hK | omega | rfl | simp <;> omega
  refine awp_cond (b := true) (p := 2) (by simp [scal] <;> omega) ?_
  refine awp_skip ?_
  show awp _ _ _ _
  refine awp_seq ?_
  refine awp_block ?_
  refine awp_seqR fun K hK => ?_
  simp (disch := omega) [ints, rows, scal, wr64, wr8, huO, nxO, hMl, hil, hget2, hset]
  and_intros <;> try first | apply hK | omega | rfl | simp <;> omega
  refine awp_seq ?_
  by_cases e : mi + 1 < R[i].length
  ·have e' : (mi : Int) + 1 < (R[i].length : Int) := by omega
   rw [if_pos e]
   refine awp_seqD (by kernel_rfl) (fun K hK => ?_)
   simp (disch := omega) [ints, rows, scal, wr64, wr8, huO, nxO, hMl, hil, hget3, hset, rows, ints]
   and_intros <;> try first | apply hK | (show chkD _ _ = true; kernel_rfl) | omega | rfl | simp <;> omega
   refine awp_cond (b := true) (p := 2) (by simp [scal, e'] <;> omega) ?_
   refine awp_seqR fun K hK => ?_
   simp (disch := omega) [ints, rows, scal, wr64, wr8]
   and_intros <;> try first | apply hK | omega | rfl | simp <;> omega
   refine awp_ret ?_
   refine ⟨⟨.inr rfl, _, [(0, some 0), (1, some 1), (2, some 2)], (by first | rfl | (simp [ints, rows, scal, huO, mcO, mcC_wk, nxO, pgT, rows, hset]; rfl)), ?_, ?_, ?_, ?_⟩, ?_⟩
   all_goals try simp [ints, rows, scal, huO, mcO, mcC_wk, nxO, pgT, rows, hset]
  ·have e' : ¬ (mi : Int) + 1 < (R[i].length : Int) := by omega
   rw [if_neg e]
   refine awp_seqD (by kernel_rfl) (fun K hK => ?_)
   simp (disch := omega) [ints, rows, scal, wr64, wr8, huO, nxO, hMl, hil, hget3, hset, rows, ints]
   and_intros <;> try first | apply hK | (show chkD _ _ = true; kernel_rfl) | omega | rfl | simp <;> omega
   refine awp_cond (b := false) (p := 2) (by simp [scal, e'] <;> omega) ?_
   refine awp_skip ?_
   show awp _ _ _ _
   refine awp_R fun K hK => ?_
   simp (disch := omega) [ints, rows, scal, wr64, wr8, huO, nxO, hMl, hil, hset, hset2]
   and_intros <;> try first | apply hK | omega | rfl | simp <;> omega
   show awp _ _ _ _
   refine awp_R fun K hK => ?_
   simp (disch := omega) [ints, rows, scal, wr64, wr8]
   (repeat' first | apply hK | apply And.intro) <;> try first | omega | rfl | (simp <;> omega)
   refine ⟨(i, M.set i 0), ⟨by simp only; omega, hM.set (fun hi2 => by rw [e2]; omega), rfl⟩, by simp only; omega, ?_⟩
   refine wk_list [(0, some 0), (1, some 1), (2, some 2)] rfl ?_ ?_ ?_ ?_
   all_goals try simp [ints, huO, mcO, mcC_wk, nxO, pgT, rows, hset, hset2]
structure HRun (R : List (List Int)) (T : Nat → Nat → Nat) (n : Nat) (one : Int) (u : Nat → Bool) (pa pb : List (Int × Int)) (v1 v2 : List Nat → Nat) : Prop where
 la : pa.length ≤ 100000
 lb : pb.length ≤ 100000
 a : ∀ N, NOk R N → Exn T n one u (asg R N) [] pa (v1 N)
 b : ∀ N, NOk R N → Exn T n one u (asg R N) [] pb (v2 N)
theorem asg_ints (R : List (List Int)) (N : List Nat) : ints (asg R N) = .sl 1 (tab R.length fun i => .int .i64 (asgF R N i)) := by
 unfold ints asg
 rw [tab_map]
set_option maxRecDepth 100000 in
set_option maxHeartbeats 16000000 in
theorem hrun_fn (pa pb : List (Int × Int)) (R : List (List Int)) (hRl : R.length ≤ 1000) (hRL : ∀ l ∈ R, l.length ≤ 100000) (tb : List (List Int)) (T : Nat → Nat → Nat) (n : Nat) (ht : TbL tb n T) (hA : Assoc n T) (hn : n ≤ 1000) (one : Int) (u : Nat → Bool) (v1 v2 : List Nat → Nat) (hE : HRun R T n one u pa pb v1 v2) (limit : Nat) (hlim : limit ≤ 10000000) (N : List Nat) (hN : NOk R N) :
  FnS Tryz.prog 36 [.ptr 0 0 5, .t 2 (.int .i64 (limit : Nat))] [huO pa pb R 1 2, mcO tb T n one u, nxO N]
   (.tup [.t 2 (.int .i64 ((runH v1 v2 R limit 0 N).1 : Nat)), .t 2 (.bool (runH v1 v2 R limit 0 N).2.1), .t 2 (.bool (runH v1 v2 R limit 0 N).2.2.1)])
   [huO pa pb R 1 2, mcO tb T n one u, nxO (runH v1 v2 R limit 0 N).2.2.2] := by
 have hVal := hvalues_fn pa pb R hRl tb T n one u N hN
 have hNl := hN.len
 refine fn_intro Tryz.func36 rfl (by simp [Tryz.f36]) ?_
 rw [show Tryz.f36.ntmps = 68 from rfl, show Tryz.f36.results = #[.tmp 4, .tmp 5, .tmp 6] from rfl]
 refine awp_seqR fun K hK => ?_
 simp (disch := omega) [ints, rows, scal, wr64, wr8]
 and_intros <;> try first | apply hK | omega | rfl | simp <;> omega
 refine awp_seqR fun K hK => ?_
 simp (disch := omega) [ints, rows, scal, wr64, wr8]
 (repeat' apply And.intro)
 all_goals (try omega)
 refine call_rule (caps := []) (hVal) [0, 1, 2] [0, 4000003, 4000004, 4000005] 1 rfl rfl rfl rfl (by kernel_rfl) (by simp) ?_ ?_ (by simp) rfl (by simp) ⟨.inr ⟨rfl, 0, _, _, _, _, _, rfl, rfl, (by first | rfl | simp [huO, mcO, mcC_in, mcC_out, nxO, pgT, rows, vaO]), rfl, (by first | rfl | simp [huO, mcO, mcC_in, mcC_out, nxO, pgT, rows, vaO])⟩, .inl ⟨by omega, by omega⟩, .inl ⟨by omega, by omega⟩, .inl ⟨by omega, by omega⟩, trivial⟩ (by simp [huO, mcO, mcC_in, mcC_out, nxO, pgT, rows, vaO]) ?_
 ·simp [scal, rows, ints, huO, mcO, mcC_in, mcC_out, nxO, pgT, rows, vaO]
 ·simp [scal, rows, ints, huO, mcO, mcC_in, mcC_out, nxO, pgT, rows, vaO]
 simp (disch := omega) [ints, rows, scal, wr64, wr8, huO, mcO, mcC_out, nxO, vaO]
 and_intros <;> try first | apply hK | omega | rfl | simp <;> omega
 refine awp_seq ?_
 refine awp_block ?_
 refine awp_loop (fun y : Nat × List Nat × (Nat → Int) => mkS [(0, .ptr 0 0 5), (1, .t 2 (.int .i64 (limit : Nat))), (4, .t 2 (.int .i64 (y.1 : Nat))), (7, .own 3 R.length)] [(0, huO pa pb R 1 2), (1, mcO tb T n one u), (2, nxO y.2.1), (3, vaO R y.2.2)] 4 68 [.ptr 0 0 5, .any]) (fun y => y.1 ≤ limit ∧ NOk R y.2.1 ∧ runH v1 v2 R limit 0 N = runH v1 v2 R (limit - y.1) y.1 y.2.1) (fun y => limit - y.1) ?_ ?_
 ·refine ⟨(0, N, asgF R N), ⟨by simp, hN, rfl⟩, ?_⟩
  refine wk_list [(0, some 0), (1, some 4000003), (2, some 4000004), (3, some 4000005)] rfl ?_ ?_ ?_ ?_
  all_goals try simp [ints, huO, mcO, mcC_wk, nxO, vaO, rows, pgT]
 rintro ⟨s, M, W⟩ ⟨hs, hM, hex⟩
 simp only at hs hM hex
 rw [hex]
 have hMl := hM.len
 refine awp_seq ?_
 by_cases hsl : s < limit
 case neg =>
  obtain rfl : s = limit := by omega
  rw [Nat.sub_self, runH]
  refine awp_seqR fun K hK => ?_
  simp (disch := omega) [ints, rows, scal, wr64, wr8]
  and_intros <;> try first | apply hK | omega | rfl | simp <;> omega
  refine awp_cond (b := false) (p := 2) (by simp [scal] <;> omega) ?_
  refine awp_exit ?_
  show awp _ _ _ _
  refine awp_seqR fun K hK => ?_
  simp (disch := omega) [ints, rows, scal, wr64, wr8]
  and_intros <;> try first | apply hK | omega | rfl | simp <;> omega
  refine awp_ret ?_
  refine ⟨⟨.inr rfl, _, [(0, some 0), (1, some 1), (2, some 2)], (by first | rfl | (simp [ints, rows, scal, huO, mcO, mcC_wk, nxO, pgT, rows]; rfl)), ?_, ?_, ?_, ?_⟩, ?_⟩
  all_goals try simp [ints, rows, scal, huO, mcO, mcC_wk, nxO, pgT, rows]
 have hE1 := hE.a M hM
 have hE2 := hE.b M hM
 have hAd := hadvance_fn pa pb R hRl hRL tb T n one u M hM
 have hr1 := run_fn tb n T ht hA hn one u (asg R M) pa hE.la (v1 M) hE1
 have hr2 := run_fn tb n T ht hA hn one u (asg R M) pb hE.lb (v2 M) hE2
 rw [asg_ints] at hr1 hr2
 rw [show limit - s = (limit - (s + 1)) + 1 by omega, runH]
 refine awp_seqR fun K hK => ?_
 simp (disch := omega) [ints, rows, scal, wr64, wr8]
 and_intros <;> try first | apply hK | omega | rfl | simp <;> omega
 refine awp_cond (b := true) (p := 2) (by simp [scal, hsl] <;> omega) ?_
 refine awp_skip ?_
 show awp _ _ _ _
 refine awp_block ?_
 refine awp_seqR fun K hK => ?_
 simp (disch := omega) [ints, rows, scal, wr64, wr8]
 and_intros <;> try first | apply hK | omega | rfl | simp <;> omega
 refine awp_seq ?_
 refine awp_seqR fun K hK => ?_
 simp (disch := omega) [ints, rows, scal, wr64, wr8, huO, nxO, hMl]
 and_intros <;> try first | apply hK | omega | rfl | simp <;> omega
 refine awp_block ?_
 refine awp_loop (fun k : Nat => mkS [(0, .ptr 0 0 5), (1, .t 2 (.int .i64 (limit : Nat))), (4, .t 2 (.int .i64 ((s + 1 : Nat) : Int))), (7, .own 3 R.length), (20, .own 2 R.length), (21, .t 2 (.int .i64 R.length)), (22, .t 2 (.int .i64 k))] [(0, huO pa pb R 1 2), (1, mcO tb T n one u), (2, nxO M), (3, vaO R fun i => if i < k then asgF R M i else W i)] 4 68 [.ptr 0 0 5, .any]) (fun k => k ≤ R.length) (fun k => R.length - k) ?_ ?_
 ·refine ⟨0, by omega, ?_⟩
  refine wk_list [(0, some 0), (1, some 1), (2, some 2), (3, some 3)] rfl ?_ ?_ ?_ ?_
  all_goals try simp [ints, huO, mcO, mcC_wk, nxO, vaO, rows, pgT]
 intro k hk
 refine awp_seqR fun K hK => ?_
 simp (disch := omega) [ints, rows, scal, wr64, wr8]
 and_intros <;> try first | apply hK | omega | rfl | simp <;> omega
 refine awp_seq ?_
 by_cases hkl : k < R.length
 ·obtain ⟨h1, h2, h3⟩ := hM.at hkl
  refine awp_cond (b := true) (p := 2) (by simp [scal, hkl] <;> omega) ?_
  refine awp_skip ?_
  show awp _ _ _ _
  refine awp_seq ?_
  refine awp_block ?_
  refine awp_seqR fun K hK => ?_
  simp (disch := omega) [ints, rows, scal, wr64, wr8, nxO, idT, hMl, hkl, h1]
  and_intros <;> try first | apply hK | omega | rfl | simp <;> omega
  refine awp_R fun K hK => ?_
  simp (disch := omega) [ints, rows, scal, wr64, wr8, huO, vaO, rows, ints, hkl, h2, h3]
  and_intros <;> try first | apply hK | omega | rfl | simp <;> omega
  show awp _ _ _ _
  refine awp_R fun K hK => ?_
  simp (disch := omega) [ints, rows, scal, wr64, wr8]
  (repeat' first | apply hK | apply And.intro) <;> try first | omega | rfl | (simp <;> omega)
  refine ⟨k + 1, by omega, by omega, ?_⟩
  refine wk_list [(0, some 0), (1, some 1), (2, some 2), (3, some 3)] rfl ?_ ?_ ?_ ?_
  all_goals try simp [ints, huO, mcO, mcC_wk, nxO, vaO, rows, idT, pgT]
  rw [tab_set]
  refine tab_congr (fun i hi => ?_)
  by_cases e : i = k
  ·subst e; simp
  ·rw [if_neg e]
   by_cases e2 : i < k
   ·rw [if_pos e2, if_pos (by omega)]
   ·rw [if_neg e2, if_neg (by omega)]
 obtain rfl : k = R.length := by omega
 have hva : vaO R (fun i => if i < R.length then asgF R M i else W i) = vaO R (asgF R M) := by
  unfold vaO
  congr 1
  exact tab_congr (fun i hi => by simp only [if_pos hi])
 rw [hva]
 refine awp_cond (b := false) (p := 2) (by simp [scal] <;> omega) ?_
 refine awp_exit ?_
 show awp _ _ _ _
 refine awp_seq ?_
 refine awp_seqD (by kernel_rfl) (fun K hK => ?_)
 simp (disch := omega) [ints, rows, scal, wr64, wr8, huO]
 (repeat' apply And.intro)
 all_goals (try omega)
 refine call_ruleD (caps := []) (hr1) [1] [1] 1 rfl rfl rfl rfl (by kernel_rfl) (by simp) ?_ ?_ (by simp) rfl (by simp) ⟨.inr ⟨rfl, 0, _, _, _, _, _, rfl, rfl, (by first | rfl | simp [huO, mcO, mcC_in, mcC_out, vaO, pgT, rows]), rfl, (by first | rfl | simp [huO, mcO, mcC_in, mcC_out, vaO, pgT, rows])⟩, trivial⟩ (by simp [huO, mcO, mcC_in, mcC_out, vaO, pgT, rows]) ?_
 ·simp [scal, rows, ints, huO, mcO, mcC_in, mcC_out, vaO, pgT, rows]
 ·simp [scal, rows, ints, huO, mcO, mcC_in, mcC_out, vaO, pgT, rows]
 simp (disch := omega) [ints, rows, scal, wr64, wr8, huO, mcC_out]
 (repeat' apply And.intro)
 all_goals (try omega)
 refine call_ruleD (caps := []) (hr2) [1] [1] 1 rfl rfl rfl rfl (by kernel_rfl) (by simp) ?_ ?_ (by simp) rfl (by simp) ⟨.inr ⟨rfl, 0, _, _, _, _, _, rfl, rfl, (by first | rfl | simp [huO, mcO, mcC_in, mcC_out, vaO, pgT, rows]), rfl, (by first | rfl | simp [huO, mcO, mcC_in, mcC_out, vaO, pgT, rows])⟩, trivial⟩ (by simp [huO, mcO, mcC_in, mcC_out, vaO, pgT, rows]) ?_
 ·simp [scal, rows, ints, huO, mcO, mcC_in, mcC_out, vaO, pgT, rows]
 ·simp [scal, rows, ints, huO, mcO, mcC_in, mcC_out, vaO, pgT, rows]
 simp (disch := omega) [ints, rows, scal, wr64, wr8, huO, mcC_out]
 (repeat' first | apply hK | apply And.intro) <;> try first | (show chkD _ _ = true; kernel_rfl) | omega | rfl | (simp <;> omega)
 by_cases e : v1 M = v2 M
 case neg =>
  rw [if_pos e]
  refine awp_cond (b := true) (p := 2) (by simp [scal, e] <;> omega) ?_
  refine awp_seqR fun K hK => ?_
  simp (disch := omega) [ints, rows, scal, wr64, wr8]
  and_intros <;> try first | apply hK | omega | rfl | simp <;> omega
  refine awp_ret ?_
  refine ⟨⟨.inr rfl, _, [(0, some 0), (1, some 1), (2, some 2)], (by first | rfl | (simp [ints, rows, scal, huO, mcO, mcC_wk, mcC_out, nxO, pgT, rows]; rfl)), ?_, ?_, ?_, ?_⟩, ?_⟩
  all_goals try simp [ints, rows, scal, huO, mcO, mcC_wk, mcC_out, nxO, pgT, rows]
 have e' : ¬ (v1 M ≠ v2 M) := fun h => h e
 rw [if_neg e']
 refine awp_cond (b := false) (p := 2) (by simp [scal, e] <;> omega) ?_
 refine awp_skip ?_
 show awp _ _ _ _
 refine awp_weak (σ' := mkS [(0, .ptr 0 0 5), (1, .t 2 (.int .i64 (limit : Nat))), (4, .t 2 (.int .i64 ((s + 1 : Nat) : Int))), (7, .own 3 R.length)] [(0, huO pa pb R 1 2), (1, mcO tb T n one u), (2, nxO M), (3, vaO R (asgF R M))] 4 68 [.ptr 0 0 5, .any]) ?_ ?_
 ·refine wk_list [(0, some 0), (1, some 1), (2, some 2), (3, some 3)] rfl ?_ ?_ ?_ ?_
  all_goals try simp [ints, huO, mcO, mcC_wk, mcC_out, nxO, vaO, rows, pgT]
 refine awp_seqR fun K hK => ?_
 simp (disch := omega) [ints, rows, scal, wr64, wr8]
 (repeat' apply And.intro)
 all_goals (try omega)
 refine call_rule (caps := []) (hAd) [0, 1, 2] [0, 1000004, 1000005] 1 rfl rfl rfl rfl (by kernel_rfl) (by simp) ?_ ?_ (by simp) rfl (by simp) ⟨.inr ⟨rfl, 0, _, _, _, _, _, rfl, rfl, (by first | rfl | simp [huO, mcO, mcC_in, mcC_out, nxO, pgT, rows]), rfl, (by first | rfl | simp [huO, mcO, mcC_in, mcC_out, nxO, pgT, rows])⟩, .inl ⟨by omega, by omega⟩, .inl ⟨by omega, by omega⟩, trivial⟩ (by simp [huO, mcO, mcC_in, mcC_out, nxO, pgT, rows]) ?_
 ·simp [scal, rows, ints, huO, mcO, mcC_in, mcC_out, nxO, pgT, rows]
 ·simp [scal, rows, ints, huO, mcO, mcC_in, mcC_out, nxO, pgT, rows]
 simp (disch := omega) [ints, rows, scal, wr64, wr8, huO, mcO, mcC_out, nxO]
 (repeat' first | apply hK | apply And.intro) <;> try first | omega | rfl | (simp <;> omega)
 cases hb : (advI R M).2 with
 | true =>
  simp only [↓reduceIte]
  refine awp_cond (b := false) (p := 2) (by simp [scal, hb] <;> omega) ?_
  refine awp_skip ?_
  refine ⟨(s + 1, (advI R M).1, asgF R M), ⟨by simp only; omega, advI_ok hM, rfl⟩, by simp only; omega, ?_⟩
  refine wk_list [(0, some 0), (1, some 1000004), (2, some 1000005), (3, some 3)] rfl ?_ ?_ ?_ ?_
  all_goals try simp [ints, huO, mcO, mcC_wk, mcC_out, nxO, vaO, rows, pgT]
 | false =>
  simp only [Bool.false_eq_true, ↓reduceIte]
  refine awp_cond (b := true) (p := 2) (by simp [scal, hb] <;> omega) ?_
  refine awp_seqR fun K hK => ?_
  simp (disch := omega) [ints, rows, scal, wr64, wr8]
  and_intros <;> try first | apply hK | omega | rfl | simp <;> omega
  refine awp_ret ?_
  refine ⟨⟨.inr rfl, _, [(0, some 0), (1, some 1000004), (2, some 1000005)], (by first | rfl | (simp [ints, rows, scal, huO, mcO, mcC_wk, mcC_out, nxO, pgT, rows]; rfl)), ?_, ?_, ?_, ?_⟩, ?_⟩
  all_goals try simp [ints, rows, scal, huO, mcO, mcC_wk, mcC_out, nxO, pgT, rows]

set_option linter.unusedSimpArgs false

def ltL : List Nat → List Nat → Prop
 | [], _ => False
 | _ :: _, [] => False
 | a :: r, b :: s => a < b ∨ a = b ∧ ltL r s
theorem NOk.cons {r : List Int} {R : List (List Int)} {n : Nat} {N : List Nat} (h : NOk (r :: R) (n :: N)) : n < r.length ∧ NOk R N := by
 refine ⟨by simpa using h.lt 0 (by simp), by simpa using h.len, fun i hi => ?_⟩
 have := h.lt (i + 1) (by simpa using hi)
 simpa using this
theorem NOk.nil {N : List Nat} (h : NOk [] N) : N = [] := List.eq_nil_of_length_eq_zero (by simpa using h.len)
theorem NOk.ex {r : List Int} {R : List (List Int)} {N : List Nat} (h : NOk (r :: R) N) : ∃ n M, N = n :: M := by
 cases N with
 | nil => have := h.len; simp at this
 | cons n M => exact ⟨n, M, rfl⟩
def advL : List (List Int) → List Nat → List Nat × Bool
 | r :: R, n :: N => if (advL R N).2 = true then (n :: (advL R N).1, true) else if n + 1 < r.length then ((n + 1) :: (advL R N).1, true) else (0 :: (advL R N).1, false)
 | _, N => (N, false)
theorem advL_cons (r : List Int) (R : List (List Int)) (n : Nat) (N : List Nat) : advL (r :: R) (n :: N) = if (advL R N).2 = true then (n :: (advL R N).1, true) else if n + 1 < r.length then ((n + 1) :: (advL R N).1, true) else (0 :: (advL R N).1, false) := rfl
theorem advG_cons (r : List Int) (R : List (List Int)) (n : Nat) : ∀ (i : Nat) (N : List Nat), advG (r :: R) (n :: N) (i + 1) = if (advG R N i).2 = true then (n :: (advG R N i).1, true) else if n + 1 < r.length then ((n + 1) :: (advG R N i).1, true) else (0 :: (advG R N i).1, false)
 | 0, N => by
  rw [advG, advG, advG]
  simp
 | i + 1, N => by
  have e1 : advG (r :: R) (n :: N) (i + 1 + 1) = if N.getD i 0 + 1 < (R.getD i []).length then (n :: N.set i (N.getD i 0 + 1), true) else advG (r :: R) (n :: N.set i 0) (i + 1) := rfl
  have e2 : advG R N (i + 1) = if N.getD i 0 + 1 < (R.getD i []).length then (N.set i (N.getD i 0 + 1), true) else advG R (N.set i 0) i := rfl
  rw [e1, e2]
  by_cases h : N.getD i 0 + 1 < (R.getD i []).length
  ·rw [if_pos h, if_pos h]
   exact (if_pos rfl).symm
  ·rw [if_neg h, if_neg h]
   exact advG_cons r R n i (N.set i 0)
theorem advI_L : ∀ {R : List (List Int)} {N : List Nat}, N.length = R.length → advI R N = advL R N
 | [], N, h => by
  obtain rfl : N = [] := List.eq_nil_of_length_eq_zero (by simpa using h)
  rfl
 | r :: R, [], h => by simp at h
 | r :: R, n :: N, h => by
  have ih := advI_L (R := R) (N := N) (by simpa using h)
  unfold advI at ih ⊢
  rw [List.length_cons, advG_cons, ih, advL_cons]
theorem zero_min : ∀ (k : Nat) (X : List Nat), ¬ ltL X (List.replicate k 0)
 | 0, X, h => by cases X <;> exact h
 | k + 1, [], h => h
 | k + 1, x :: X, h => by
  rcases h with h | ⟨-, h⟩
  ·omega
  ·exact zero_min k X h
theorem advL_last : ∀ {R : List (List Int)} {N : List Nat}, NOk R N → (advL R N).2 = false → (advL R N).1 = List.replicate R.length 0 ∧ ∀ X, NOk R X → ltL X N ∨ X = N
 | [], N, hN, h => by
  obtain rfl := hN.nil
  exact ⟨rfl, fun X hX => .inr hX.nil⟩
 | r :: R, N, hN, h => by
  obtain ⟨n, N, rfl⟩ := hN.ex
  obtain ⟨h1, h2⟩ := hN.cons
  rw [advL_cons] at h ⊢
  by_cases ht : (advL R N).2 = true
  ·rw [if_pos ht] at h; cases h
  rw [if_neg ht] at h ⊢
  by_cases hn : n + 1 < r.length
  ·rw [if_pos hn] at h; cases h
  rw [if_neg hn]
  obtain ⟨e1, e2⟩ := advL_last h2 (by simpa using ht)
  refine ⟨by rw [e1]; rfl, fun X hX => ?_⟩
  obtain ⟨x, X, rfl⟩ := hX.ex
  obtain ⟨h3, h4⟩ := hX.cons
  rcases Nat.lt_or_ge x n with h5 | h5
  ·exact .inl (.inl h5)
  ·obtain rfl : x = n := by omega
   rcases e2 X h4 with h6 | rfl
   ·exact .inl (.inr ⟨rfl, h6⟩)
   ·exact .inr rfl
theorem advL_succ : ∀ {R : List (List Int)} {N : List Nat}, NOk R N → (advL R N).2 = true → ∀ X, NOk R X → ltL X (advL R N).1 → ltL X N ∨ X = N
 | [], N, hN, h, X, hX, hl => by
  obtain rfl := hN.nil
  cases h
 | r :: R, N, hN, h, X, hX, hl => by
  obtain ⟨n, N, rfl⟩ := hN.ex
  obtain ⟨h1, h2⟩ := hN.cons
  obtain ⟨x, X, rfl⟩ := hX.ex
  obtain ⟨h3, h4⟩ := hX.cons
  rw [advL_cons] at h hl
  by_cases ht : (advL R N).2 = true
  ·rw [if_pos ht] at hl
   rcases hl with hl | ⟨rfl, hl⟩
   ·exact .inl (.inl hl)
   ·rcases advL_succ h2 ht X h4 hl with h5 | rfl
    ·exact .inl (.inr ⟨rfl, h5⟩)
    ·exact .inr rfl
  rw [if_neg ht] at h hl
  by_cases hn : n + 1 < r.length
  ·rw [if_pos hn] at hl
   obtain ⟨e1, e2⟩ := advL_last h2 (by simpa using ht)
   rw [e1] at hl
   rcases hl with hl | ⟨-, hl⟩
   ·rcases Nat.lt_or_ge x n with h5 | h5
    ·exact .inl (.inl h5)
    ·obtain rfl : x = n := by omega
     rcases e2 X h4 with h6 | rfl
     ·exact .inl (.inr ⟨rfl, h6⟩)
     ·exact .inr rfl
   ·exact absurd hl (zero_min _ _)
  ·rw [if_neg hn] at h; cases h
theorem run_least {v1 v2 : List Nat → Nat} {R : List (List Int)} : ∀ (f s : Nat) (N : List Nat), NOk R N → (∀ X, NOk R X → ltL X N → v1 X = v2 X) →
  ((runH v1 v2 R f s N).2.1 = true → v1 (runH v1 v2 R f s N).2.2.2 ≠ v2 (runH v1 v2 R f s N).2.2.2 ∧ ∀ X, NOk R X → ltL X (runH v1 v2 R f s N).2.2.2 → v1 X = v2 X) ∧
  ((runH v1 v2 R f s N).2.1 = false → (runH v1 v2 R f s N).2.2.1 = true → ∀ X, NOk R X → v1 X = v2 X)
 | 0, s, N, hN, hb => ⟨(fun h => Bool.noConfusion h), (fun _ h => Bool.noConfusion h)⟩
 | f + 1, s, N, hN, hb => by
  have hrun : runH v1 v2 R (f + 1) s N = if v1 N ≠ v2 N then (s + 1, true, true, N) else if (advI R N).2 = true then runH v1 v2 R f (s + 1) (advI R N).1 else (s + 1, false, true, (advI R N).1) := rfl
  rw [hrun]
  by_cases hne : v1 N ≠ v2 N
  ·rw [if_pos hne]
   exact ⟨(fun _ => ⟨hne, hb⟩), (fun h => Bool.noConfusion h)⟩
  rw [if_neg hne]
  have heq : v1 N = v2 N := Decidable.not_not.1 hne
  have hL := advI_L (R := R) (N := N) hN.len
  have hok := advI_ok hN
  by_cases h2 : (advI R N).2 = true
  ·rw [if_pos h2]
   refine run_least f (s + 1) _ hok fun X hX hlt => ?_
   rw [hL] at hlt h2
   rcases advL_succ hN h2 X hX hlt with h3 | rfl
   ·exact hb X hX h3
   ·exact heq
  ·rw [if_neg h2]
   refine ⟨(fun h => Bool.noConfusion h), fun _ _ X hX => ?_⟩
   rw [hL] at h2
   rcases (advL_last hN (by simpa using h2)).2 X hX with h3 | rfl
   ·exact hb X hX h3
   ·exact heq
def lessB : List Int → List Int → Bool
 | [], b => decide (0 < b.length)
 | _ :: _, [] => false
 | a :: r, b :: s => if a = b then lessB r s else decide (a < b)
theorem asg_cons (r : List Int) (R : List (List Int)) (n : Nat) (N : List Nat) : asg (r :: R) (n :: N) = r.getD n 0 :: asg R N := by
 unfold asg tab
 rw [List.length_cons, List.range_succ_eq_map, List.map_cons, List.map_map]
 rfl
theorem asc_at {l : List Int} (h : l.Pairwise (· < ·)) {i j : Nat} (hi : i < l.length) (hj : j < l.length) : (l.getD i 0 = l.getD j 0 → i = j) ∧ (l.getD i 0 < l.getD j 0 → i < j) := by
 have e1 : l.getD i 0 = l[i] := by simp [hi]
 have e2 : l.getD j 0 = l[j] := by simp [hj]
 rw [e1, e2]
 have hp := List.pairwise_iff_getElem.1 h
 rcases Nat.lt_trichotomy i j with h1 | h1 | h1
 ·have := hp i j hi hj h1
  exact ⟨fun e => by omega, fun _ => h1⟩
 ·exact ⟨fun _ => h1, fun e => by subst h1; omega⟩
 ·have := hp j i hj hi h1
  exact ⟨fun e => by omega, fun e => by omega⟩
theorem less_lt : ∀ {R : List (List Int)} {X M : List Nat}, (∀ l ∈ R, l.Pairwise (· < ·)) → NOk R X → NOk R M → lessB (asg R X) (asg R M) = true → ltL X M
 | [], X, M, hR, hX, hM, h => by cases h
 | r :: R, X, M, hR, hX, hM, h => by
  obtain ⟨x, X, rfl⟩ := hX.ex
  obtain ⟨m, M, rfl⟩ := hM.ex
  obtain ⟨h1, h2⟩ := hX.cons
  obtain ⟨h3, h4⟩ := hM.cons
  rw [asg_cons, asg_cons] at h
  obtain ⟨a1, a2⟩ := asc_at (hR r (by simp)) h1 h3
  unfold lessB at h
  by_cases e : r.getD x 0 = r.getD m 0
  ·rw [if_pos e] at h
   exact .inr ⟨a1 e, less_lt (fun l hl => hR l (by simp [hl])) h2 h4 h⟩
  ·rw [if_neg e] at h
   exact .inl (a2 (of_decide_eq_true h))

set_option linter.unusedSimpArgs false

theorem lessB_end {a b : List Int} {i : Nat} (h1 : i ≤ a.length) (h2 : i ≤ b.length) (h : ¬ (i < a.length ∧ i < b.length)) : lessB (a.drop i) (b.drop i) = decide (a.length < b.length) := by
 by_cases h3 : i < a.length
 ·have e : b.drop i = [] := List.drop_eq_nil_of_le (by omega)
  rw [e, List.drop_eq_getElem_cons h3]
  show false = _
  rw [decide_eq_false (by omega)]
 ·have e : a.drop i = [] := List.drop_eq_nil_of_le (by omega)
  rw [e]
  show decide (0 < (b.drop i).length) = _
  rw [List.length_drop]
  have : a.length = i := by omega
  by_cases h4 : i < b.length
  ·rw [decide_eq_true (by omega), decide_eq_true (by omega)]
  ·rw [decide_eq_false (by omega), decide_eq_false (by omega)]
set_option maxRecDepth 100000 in
set_option maxHeartbeats 8000000 in
theorem less_fn (a b : List Int) (ha : a.length ≤ 100000) (hb : b.length ≤ 100000) : FnA Tryz.prog 17 [.t 0 (ints a), .t 0 (ints b)] (.t 2 (.bool (lessB a b))) := by
 refine fn_intro Tryz.func17 rfl (by simp [Tryz.f17]) ?_
 rw [show Tryz.f17.ntmps = 41 from rfl, show Tryz.f17.results = #[.tmp 4] from rfl]
 refine awp_seqR fun K hK => ?_
 simp (disch := omega) [ints, rows, scal, wr64, wr8]
 and_intros <;> try first | apply hK | omega | rfl | simp <;> omega
 refine awp_seq ?_
 refine awp_seqR fun K hK => ?_
 simp (disch := omega) [ints, rows, scal, wr64, wr8]
 and_intros <;> try first | apply hK | omega | rfl | simp <;> omega
 refine awp_block ?_
 refine awp_loop (fun i : Nat => mkS [(0, .t 0 (ints a)), (1, .t 0 (ints b)), (5, .t 2 (.int .i64 i))] [] 0 41 [.any, .any]) (fun i => i ≤ a.length ∧ i ≤ b.length ∧ lessB a b = lessB (a.drop i) (b.drop i)) (fun i => a.length - i) ?_ ?_
 ·refine ⟨0, ⟨by omega, by omega, rfl⟩, ?_⟩
  refine wk_list [] rfl ?_ ?_ ?_ ?_
  all_goals try simp [ints, ints]
 rintro i ⟨h1, h2, h3⟩
 refine awp_seq ?_
 by_cases hi : i < a.length ∧ i < b.length
 ·obtain ⟨hia, hib⟩ := hi
  rw [List.drop_eq_getElem_cons hia, List.drop_eq_getElem_cons hib] at h3
  obtain ⟨x, hx⟩ : ∃ x, x = a[i] := ⟨_, rfl⟩
  obtain ⟨y, hy⟩ : ∃ y, y = b[i] := ⟨_, rfl⟩
  have h4 : lessB a b = if x = y then lessB (a.drop (i + 1)) (b.drop (i + 1)) else decide (x < y) := by rw [h3, hx, hy]; rfl
  refine awp_seqR fun K hK => ?_
  simp (disch := omega) [ints, rows, scal, wr64, wr8, hia, hib]
  and_intros <;> try first | apply hK | omega | rfl | simp <;> omega
  refine awp_cond (b := true) (p := 2) (by simp [scal, hia, hib] <;> omega) ?_
  refine awp_skip ?_
  show awp _ _ _ _
  refine awp_seq ?_
  refine awp_block ?_
  by_cases e : x = y
  ·rw [if_pos e] at h4
   have e2 : (a[i] != b[i]) = false := by rw [← hx, ← hy, e]; simp
   refine awp_seqD (by kernel_rfl) (fun K hK => ?_)
   simp (disch := omega) [ints, rows, scal, wr64, wr8, hia, hib, e2]
   and_intros <;> try first | apply hK | (show chkD _ _ = true; kernel_rfl) | omega | rfl | simp <;> omega
   refine awp_cond (b := false) (p := 2) (by simp [scal, e2] <;> omega) ?_
   refine awp_skip ?_
   show awp _ _ _ _
   refine awp_R fun K hK => ?_
   simp (disch := omega) [ints, rows, scal, wr64, wr8]
   (repeat' first | apply hK | apply And.intro) <;> try first | omega | rfl | (simp <;> omega)
   refine ⟨i + 1, ⟨by omega, by omega, h4⟩, by omega, ?_⟩
   refine wk_list [] rfl ?_ ?_ ?_ ?_
   all_goals try simp [ints, ints]
  ·rw [if_neg e] at h4
   have e2 : (a[i] != b[i]) = true := by rw [← hx, ← hy]; simpa using e
   refine awp_seqD (by kernel_rfl) (fun K hK => ?_)
   simp (disch := omega) [ints, rows, scal, wr64, wr8, hia, hib, e2]
   and_intros <;> try first | apply hK | (show chkD _ _ = true; kernel_rfl) | omega | rfl | simp <;> omega
   refine awp_cond (b := true) (p := 2) (by simp [scal, e2] <;> omega) ?_
   refine awp_seqD (by kernel_rfl) (fun K hK => ?_)
   simp (disch := omega) [ints, rows, scal, wr64, wr8, hia, hib]
   and_intros <;> try first | apply hK | (show chkD _ _ = true; kernel_rfl) | omega | rfl | simp <;> omega
   refine awp_ret ?_
   rw [h4, hx, hy]
   refine ⟨⟨.inr rfl, _, [], rfl, trivial, trivial, by simp, ?_⟩, by simp⟩
   simp
 ·rw [h3, lessB_end h1 h2 hi]
  by_cases hia : i < a.length
  ·have hib : ¬ i < b.length := fun h => hi ⟨hia, h⟩
   refine awp_seqR fun K hK => ?_
   simp (disch := omega) [ints, rows, scal, wr64, wr8, hia, hib]
   and_intros <;> try first | apply hK | omega | rfl | simp <;> omega
   refine awp_cond (b := false) (p := 2) (by simp [scal, hia, hib] <;> omega) ?_
   refine awp_exit ?_
   show awp _ _ _ _
   refine awp_seqR fun K hK => ?_
   simp (disch := omega) [ints, rows, scal, wr64, wr8]
   and_intros <;> try first | apply hK | omega | rfl | simp <;> omega
   refine awp_ret ?_
   refine ⟨⟨.inr rfl, _, [], rfl, trivial, trivial, by simp, ?_⟩, by simp⟩
   simp
  ·refine awp_seqR fun K hK => ?_
   simp (disch := omega) [ints, rows, scal, wr64, wr8, hia]
   and_intros <;> try first | apply hK | omega | rfl | simp <;> omega
   refine awp_cond (b := false) (p := 2) (by simp [scal, hia] <;> omega) ?_
   refine awp_exit ?_
   show awp _ _ _ _
   refine awp_seqR fun K hK => ?_
   simp (disch := omega) [ints, rows, scal, wr64, wr8]
   and_intros <;> try first | apply hK | omega | rfl | simp <;> omega
   refine awp_ret ?_
   refine ⟨⟨.inr rfl, _, [], rfl, trivial, trivial, by simp, ?_⟩, by simp⟩
   simp
end Go.Proofs.YtghnmmfkckneaaaGreat.M
