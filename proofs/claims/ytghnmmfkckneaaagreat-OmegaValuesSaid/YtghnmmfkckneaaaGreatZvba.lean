/-
  Walk in my logic: visits of the nodes of a term (omega.visit) with a function value that has captured one or two variables.
  Walks in my logic: variables of terms, TermOne in terms (omega).
  Walks in my logic: validity and identity of tables (mult), Value (omega).
  Walks in my logic: Powers, Omega, In, Identity of the reference of layer 14.
-/
import Derived.Test.YtghnmmfkckneaaaGreatZvaz
import Derived.Test.YtghnmmfkckneaaaGreatZvau
namespace Go.Proofs.YtghnmmfkckneaaaGreat.M
open Go.RowKit
set_option linter.unusedVariables false
set_option linter.unusedSimpArgs false

mutual
def Tm.vis {S : Type} (step : S → Int × Int → Int × Int → S) : S → Int × Int → Tm → S
 | s, a, .mk o n l => visL step (step s (o, n) a) (o, n) l
def visL {S : Type} (step : S → Int × Int → Int × Int → S) : S → Int × Int → List Tm → S
 | s, a, [] => s
 | s, a, t :: l => visL step (t.vis step s a) a l
end
theorem vis_eq {S : Type} (step : S → Int × Int → Int × Int → S) (s : S) (a : Int × Int) (t : Tm) : t.vis step s a = visL step (step s (t.op, t.n) a) (t.op, t.n) t.args := by
 obtain ⟨o, n, l⟩ := t
 rw [Tm.vis]
 rfl
theorem visL_app {S : Type} (step : S → Int × Int → Int × Int → S) : ∀ (l r : List Tm) (s : S) (a : Int × Int), visL step s a (l ++ r) = visL step (visL step s a l) a r
 | [], r, s, a => by rw [List.nil_append, visL]
 | t :: l, r, s, a => by rw [List.cons_append, visL, visL, visL_app step l r]
theorem take_vis {S : Type} (step : S → Int × Int → Int × Int → S) (s : S) (a : Int × Int) {l : List Tm} {k : Nat} (h : k < l.length) : visL step s a (l.take (k + 1)) = l[k].vis step (visL step s a (l.take k)) a := by
 rw [List.take_succ_eq_append_getElem h, visL_app, visL, visL]
def abV (a : Int × Int) : AV := .agg [.t 2 (.int .i64 a.1), .t 2 (.int .i64 a.2), .any]
def scC (l : List T) : List AV := l.map (.t 2)
@[simp] theorem scC_len (l : List T) : (scC l).length = l.length := by simp [scC]
def bxO (ty : Nat) (l : List T) : AObj := .box ty (scC l)
theorem scC_in {H : Nat → Option AObj} {pi : List Nat} {q : Nat} : ∀ {l : List T}, (∀ x ∈ l, scal x = true) → inPs H pi q (scC l) (scC l) = True
 | [], _ => rfl
 | x :: l, h => eq_true ⟨⟨rfl, .inl (h x (by simp))⟩, of_eq_true (scC_in (l := l) fun y hy => h y (by simp [hy]))⟩
theorem scC_out {po : List Nat} {q : Nat} : ∀ {l : List T}, (∀ x ∈ l, scal x = true) → outVs po q (scC l) = scC l
 | [], _ => rfl
 | x :: l, h => by
  show outV po q (.t 2 x) :: outVs po q (scC l) = .t 2 x :: scC l
  rw [scC_out (fun y hy => h y (by simp [hy]))]
  simp
theorem scC_wk {H : Nat → Option AObj} {m : Nat → Option Nat} {un : Nat → Prop} {nx : Nat} : ∀ (l : List T), wkPs H m un nx (scC l) (scC l) = True
 | [] => rfl
 | x :: l => eq_true ⟨⟨rfl, Nat.le_refl _⟩, of_eq_true (scC_wk l)⟩

set_option maxRecDepth 100000 in
set_option maxHeartbeats 16000000 in
theorem visit1_fn {S : Type} {L0 : S → List T} {ty0 c0 : Nat} {F : FuncId} (hF : bodied Tryz.prog F = true) (step : S → Int × Int → Int × Int → S) (hs0 : ∀ s, ∀ x ∈ L0 s, scal x = true) (hc0 : ∀ s, (L0 s).length = c0)
  (h : ∀ (s : S) (t : Tm) (a : Int × Int), t.ok = true → FnS Tryz.prog F [tmV 0 t, abV a, .ptr 0 0 c0] [bxO ty0 (L0 s)] (.tup []) [bxO ty0 (L0 (step s (t.op, t.n) a))]) :
  ∀ (t : Tm) (s : S) (a : Int × Int), t.ok = true → t.sz ≤ 1000 → FnK Tryz.prog 83 [tmV 0 t, abV a, .fn F [.ptr 0 0 c0]] [bxO ty0 (L0 s)] (.tup []) [bxO ty0 (L0 (t.vis step s a))] (List.range 1) := by
 have hi0 : ∀ (H : Nat → Option AObj) (pi : List Nat) (q : Nat) (s : S), inPs H pi q (scC (L0 s)) (scC (L0 s)) = True := fun H pi q s => scC_in (hs0 s)
 have ho0 : ∀ (po : List Nat) (q : Nat) (s : S), outVs po q (scC (L0 s)) = scC (L0 s) := fun po q s => scC_out (hs0 s)
 have hw0 : ∀ (H : Nat → Option AObj) (m : Nat → Option Nat) (un : Nat → Prop) (nx : Nat) (s : S), wkPs H m un nx (scC (L0 s)) (scC (L0 s)) = True := fun H m un nx s => scC_wk (L0 s)
 intro t
 induction hsz : t.sz using Nat.strongRecOn generalizing t with
 | _ q ih =>
 intro s a ho hq
 have hokl : okL' t.args = true := by rw [ok_eq, Bool.and_eq_true] at ho; exact ho.2
 have hF1 := h s t a ho
 have hsl := szL_ge t.args
 have hse := sz_eq t
 rw [vis_eq]
 refine fn_introKB 1 (fun _ => c0) (fun k hk => by
  obtain rfl : k = 0 := by omega
  exact ⟨_, _, rfl, by simp [hc0]⟩) (fun k hk => by
  obtain rfl : k = 0 := by omega
  exact ⟨_, _, rfl, by simp [hc0]⟩) Tryz.func83 rfl (by simp [Tryz.f83]) ?_
 rw [show Tryz.f83.ntmps = 24 from rfl, show Tryz.f83.results = #[] from rfl]
 generalize step s (t.op, t.n) a = s1 at hF1 ⊢
 refine awp_seqR fun K hK => ?_
 simp (maxSteps := 2000000) (disch := omega) [ints, rows, scal, wr64, wr8, tmV, abV]
 (repeat' first | apply hK | apply And.intro) <;> try first | omega | rfl | (simp <;> omega)
 refine awp_seqR fun K hK => ?_
 simp (maxSteps := 2000000) (disch := omega) [ints, rows, scal, wr64, wr8, tsTerm]
 (repeat' apply And.intro)
 all_goals (try omega)
 refine call_rule (caps := [.ptr 0 0 c0]) (hF1) [0] [0] 1 rfl rfl rfl (by simp) (by first | assumption | kernel_rfl) (by simp) ?_ ?_ (by simp) rfl (by simp) ⟨.inr ⟨rfl, 2, _, _, _, _, _, rfl, rfl, (by first | rfl | simp [tmV, abV, bxO, hi0, ho0, hw0, hc0]), rfl, (by first | rfl | simp [tmV, abV, bxO, hi0, ho0, hw0, hc0])⟩, trivial⟩ (by simp [tmV, abV, bxO, hi0, ho0, hw0, hc0]) ?_
 ·simp [scal, rows, ints, tmV, abV, bxO, hi0, ho0, hw0, hc0]
 ·simp [scal, rows, ints, tmV, abV, bxO, hi0, ho0, hw0, hc0]
 simp (maxSteps := 2000000) (disch := omega) [ints, rows, scal, wr64, wr8, bxO, hi0, ho0, hw0, hc0]
 (repeat' first | apply hK | apply And.intro) <;> try first | omega | rfl | (simp <;> omega)
 refine awp_seqR fun K hK => ?_
 simp (maxSteps := 2000000) (disch := omega) [ints, rows, scal, wr64, wr8]
 (repeat' first | apply hK | apply And.intro) <;> try first | omega | rfl | (simp <;> omega)
 refine awp_block ?_
 refine awp_loop (fun k : Nat => mkS [(2, .fn F [.ptr 0 0 c0]), (3, .ptr 1 0 3), (13, .t 0 (.sl 3 (cellsL t.args))), (14, .t 2 (.int .i64 t.args.length)), (15, .t 2 (.int .i64 k))] [(0, bxO ty0 (L0 (visL step s1 (t.op, t.n) (t.args.take k)))), (1, teO t)] 2 24 [.any, .any, .any, .ptr 0 0 c0]) (fun k => k ≤ t.args.length) (fun k => t.args.length - k) ?_ ?_
 ·refine ⟨0, by omega, ?_⟩
  rw [show visL step s1 (t.op, t.n) (t.args.take 0) = s1 from by rw [List.take_zero, visL]]
  refine wk_list [(0, some 0), (1, some 1)] rfl ?_ ?_ ?_ ?_
  all_goals try simp [ints, teO, bxO, tmV, ghB, List.range_succ, hi0, ho0, hw0, hc0]
 intro k hk
 refine awp_seqR fun K hK => ?_
 simp (maxSteps := 2000000) (disch := omega) [ints, rows, scal, wr64, wr8]
 (repeat' first | apply hK | apply And.intro) <;> try first | omega | rfl | (simp <;> omega)
 refine awp_seq ?_
 by_cases hkl : k < t.args.length
 ·obtain ⟨b, hb⟩ : ∃ b, b = t.args[k] := ⟨_, rfl⟩
  have hcut := cellsL_cut t.args k hkl
  rw [← hb, Tm.cells_eq] at hcut
  have ham : b ∈ t.args := by rw [hb]; exact List.getElem_mem hkl
  have hlt := sz_arg ham
  have htv := take_vis step s1 (t.op, t.n) hkl
  rw [← hb] at htv
  have hA := ih b.sz (by omega) b rfl (visL step s1 (t.op, t.n) (t.args.take k)) (t.op, t.n) (okL'_all.1 hokl b ham) (by omega)
  rw [← htv] at hA
  refine awp_cond (b := true) (p := 2) (by simp [scal, hkl] <;> omega) ?_
  refine awp_skip ?_
  show awp _ _ _ _
  refine awp_seq ?_
  refine awp_block ?_
  refine awp_seqR fun K hK => ?_
  simp (maxSteps := 2000000) (disch := omega) [ints, rows, scal, wr64, wr8, hcut, hkl, teO]
  (repeat' first | apply hK | apply And.intro) <;> try first | omega | rfl | (simp <;> omega)
  refine awp_R fun K hK => ?_
  simp (maxSteps := 2000000) (disch := omega) [ints, rows, scal, wr64, wr8, teO]
  (repeat' apply And.intro)
  all_goals (try omega)
  refine call_ruleK (caps := []) (hA) [0] [0] 1 rfl rfl rfl rfl (by kernel_rfl) (by simp) ?_ ?_ (by simp) rfl (by simp) ⟨.inr (.inr ⟨rfl, by simp, by simp⟩), trivial⟩ (by simp [tmV, abV, bxO, teO, hi0, ho0, hw0, hc0]) ?_
  ·simp [scal, rows, ints, tmV, abV, bxO, teO, hi0, ho0, hw0, hc0]
  ·simp [scal, rows, ints, tmV, abV, bxO, teO, hi0, ho0, hw0, hc0]
  simp (maxSteps := 2000000) (disch := omega) [ints, rows, scal, wr64, wr8, teO, bxO, hi0, ho0, hw0, hc0]
  (repeat' first | apply hK | apply And.intro) <;> try first | omega | rfl | (simp <;> omega)
  show awp _ _ _ _
  refine awp_R fun K hK => ?_
  simp (maxSteps := 2000000) (disch := omega) [ints, rows, scal, wr64, wr8]
  (repeat' first | apply hK | apply And.intro) <;> try first | omega | rfl | (simp <;> omega)
  refine ⟨k + 1, by omega, by omega, ?_⟩
  refine wk_list [(0, some 0), (1, some 1)] rfl ?_ ?_ ?_ ?_
  all_goals try simp [ints, teO, bxO, hi0, ho0, hw0, hc0]
 ·obtain rfl : k = t.args.length := by omega
  rw [List.take_length]
  refine awp_cond (b := false) (p := 2) (by simp [scal] <;> omega) ?_
  refine awp_exit ?_
  refine ⟨⟨.inl rfl, _, [(0, some 0)], rfl, ?_, ?_, ?_, ?_⟩, ?_⟩
  all_goals simp [bxO, ghB, List.range_succ, tmV, abV, hi0, ho0, hw0, hc0]


set_option maxRecDepth 100000 in
set_option maxHeartbeats 16000000 in
theorem visit2_fn {S : Type} {L0 : S → List T} {L1 : S → List T} {ty0 c0 : Nat} {ty1 c1 : Nat} {F : FuncId} (hF : bodied Tryz.prog F = true) (step : S → Int × Int → Int × Int → S) (hs0 : ∀ s, ∀ x ∈ L0 s, scal x = true) (hc0 : ∀ s, (L0 s).length = c0) (hs1 : ∀ s, ∀ x ∈ L1 s, scal x = true) (hc1 : ∀ s, (L1 s).length = c1)
  (h : ∀ (s : S) (t : Tm) (a : Int × Int), t.ok = true → FnS Tryz.prog F [tmV 0 t, abV a, .ptr 0 0 c0, .ptr 1 0 c1] [bxO ty0 (L0 s), bxO ty1 (L1 s)] (.tup []) [bxO ty0 (L0 (step s (t.op, t.n) a)), bxO ty1 (L1 (step s (t.op, t.n) a))]) :
  ∀ (t : Tm) (s : S) (a : Int × Int), t.ok = true → t.sz ≤ 1000 → FnK Tryz.prog 83 [tmV 0 t, abV a, .fn F [.ptr 0 0 c0, .ptr 1 0 c1]] [bxO ty0 (L0 s), bxO ty1 (L1 s)] (.tup []) [bxO ty0 (L0 (t.vis step s a)), bxO ty1 (L1 (t.vis step s a))] (List.range 2) := by
 have hi0 : ∀ (H : Nat → Option AObj) (pi : List Nat) (q : Nat) (s : S), inPs H pi q (scC (L0 s)) (scC (L0 s)) = True := fun H pi q s => scC_in (hs0 s)
 have ho0 : ∀ (po : List Nat) (q : Nat) (s : S), outVs po q (scC (L0 s)) = scC (L0 s) := fun po q s => scC_out (hs0 s)
 have hw0 : ∀ (H : Nat → Option AObj) (m : Nat → Option Nat) (un : Nat → Prop) (nx : Nat) (s : S), wkPs H m un nx (scC (L0 s)) (scC (L0 s)) = True := fun H m un nx s => scC_wk (L0 s)
 have hi1 : ∀ (H : Nat → Option AObj) (pi : List Nat) (q : Nat) (s : S), inPs H pi q (scC (L1 s)) (scC (L1 s)) = True := fun H pi q s => scC_in (hs1 s)
 have ho1 : ∀ (po : List Nat) (q : Nat) (s : S), outVs po q (scC (L1 s)) = scC (L1 s) := fun po q s => scC_out (hs1 s)
 have hw1 : ∀ (H : Nat → Option AObj) (m : Nat → Option Nat) (un : Nat → Prop) (nx : Nat) (s : S), wkPs H m un nx (scC (L1 s)) (scC (L1 s)) = True := fun H m un nx s => scC_wk (L1 s)
 intro t
 induction hsz : t.sz using Nat.strongRecOn generalizing t with
 | _ q ih =>
 intro s a ho hq
 have hokl : okL' t.args = true := by rw [ok_eq, Bool.and_eq_true] at ho; exact ho.2
 have hF1 := h s t a ho
 have hsl := szL_ge t.args
 have hse := sz_eq t
 rw [vis_eq]
 refine fn_introKB 2 (fun k => if k = 0 then c0 else c1) (fun k hk => by
  rcases (by omega : k = 0 ∨ k = 1) with rfl | rfl
  ·exact ⟨_, _, rfl, by simp [hc0]⟩
  ·exact ⟨_, _, rfl, by simp [hc1]⟩) (fun k hk => by
  rcases (by omega : k = 0 ∨ k = 1) with rfl | rfl
  ·exact ⟨_, _, rfl, by simp [hc0]⟩
  ·exact ⟨_, _, rfl, by simp [hc1]⟩) Tryz.func83 rfl (by simp [Tryz.f83]) ?_
 rw [show Tryz.f83.ntmps = 24 from rfl, show Tryz.f83.results = #[] from rfl]
 generalize step s (t.op, t.n) a = s1 at hF1 ⊢
 refine awp_seqR fun K hK => ?_
 simp (maxSteps := 2000000) (disch := omega) [ints, rows, scal, wr64, wr8, tmV, abV]
 (repeat' first | apply hK | apply And.intro) <;> try first | omega | rfl | (simp <;> omega)
 refine awp_seqR fun K hK => ?_
 simp (maxSteps := 2000000) (disch := omega) [ints, rows, scal, wr64, wr8, tsTerm]
 (repeat' apply And.intro)
 all_goals (try omega)
 refine call_rule (caps := [.ptr 0 0 c0, .ptr 1 0 c1]) (hF1) [0, 1] [0, 1] 1 rfl rfl rfl (by simp) (by first | assumption | kernel_rfl) (by simp) ?_ ?_ (by simp) rfl (by simp) ⟨.inr ⟨rfl, 2, _, _, _, _, _, rfl, rfl, (by first | rfl | simp [tmV, abV, bxO, hi0, ho0, hw0, hc0, hi1, ho1, hw1, hc1]), rfl, (by first | rfl | simp [tmV, abV, bxO, hi0, ho0, hw0, hc0, hi1, ho1, hw1, hc1])⟩, .inr ⟨rfl, 3, _, _, _, _, _, rfl, rfl, (by first | rfl | simp [tmV, abV, bxO, hi0, ho0, hw0, hc0, hi1, ho1, hw1, hc1]), rfl, (by first | rfl | simp [tmV, abV, bxO, hi0, ho0, hw0, hc0, hi1, ho1, hw1, hc1])⟩, trivial⟩ (by simp [tmV, abV, bxO, hi0, ho0, hw0, hc0, hi1, ho1, hw1, hc1]) ?_
 ·simp [scal, rows, ints, tmV, abV, bxO, hi0, ho0, hw0, hc0, hi1, ho1, hw1, hc1]
 ·simp [scal, rows, ints, tmV, abV, bxO, hi0, ho0, hw0, hc0, hi1, ho1, hw1, hc1]
 simp (maxSteps := 2000000) (disch := omega) [ints, rows, scal, wr64, wr8, bxO, hi0, ho0, hw0, hc0, hi1, ho1, hw1, hc1]
 (repeat' first | apply hK | apply And.intro) <;> try first | omega | rfl | (simp <;> omega)
 refine awp_seqR fun K hK => ?_
 simp (maxSteps := 2000000) (disch := omega) [ints, rows, scal, wr64, wr8]
 (repeat' first | apply hK | apply And.intro) <;> try first | omega | rfl | (simp <;> omega)
 refine awp_block ?_
 refine awp_loop (fun k : Nat => mkS [(2, .fn F [.ptr 0 0 c0, .ptr 1 0 c1]), (3, .ptr 2 0 3), (13, .t 0 (.sl 3 (cellsL t.args))), (14, .t 2 (.int .i64 t.args.length)), (15, .t 2 (.int .i64 k))] [(0, bxO ty0 (L0 (visL step s1 (t.op, t.n) (t.args.take k)))), (1, bxO ty1 (L1 (visL step s1 (t.op, t.n) (t.args.take k)))), (2, teO t)] 3 24 [.any, .any, .any, .ptr 0 0 c0, .ptr 1 0 c1]) (fun k => k ≤ t.args.length) (fun k => t.args.length - k) ?_ ?_
 ·refine ⟨0, by omega, ?_⟩
  rw [show visL step s1 (t.op, t.n) (t.args.take 0) = s1 from by rw [List.take_zero, visL]]
  refine wk_list [(0, some 0), (1, some 1), (2, some 2)] rfl ?_ ?_ ?_ ?_
  all_goals try simp [ints, teO, bxO, tmV, ghB, List.range_succ, hi0, ho0, hw0, hc0, hi1, ho1, hw1, hc1]
 intro k hk
 refine awp_seqR fun K hK => ?_
 simp (maxSteps := 2000000) (disch := omega) [ints, rows, scal, wr64, wr8]
 (repeat' first | apply hK | apply And.intro) <;> try first | omega | rfl | (simp <;> omega)
 refine awp_seq ?_
 by_cases hkl : k < t.args.length
 ·obtain ⟨b, hb⟩ : ∃ b, b = t.args[k] := ⟨_, rfl⟩
  have hcut := cellsL_cut t.args k hkl
  rw [← hb, Tm.cells_eq] at hcut
  have ham : b ∈ t.args := by rw [hb]; exact List.getElem_mem hkl
  have hlt := sz_arg ham
  have htv := take_vis step s1 (t.op, t.n) hkl
  rw [← hb] at htv
  have hA := ih b.sz (by omega) b rfl (visL step s1 (t.op, t.n) (t.args.take k)) (t.op, t.n) (okL'_all.1 hokl b ham) (by omega)
  rw [← htv] at hA
  refine awp_cond (b := true) (p := 2) (by simp [scal, hkl] <;> omega) ?_
  refine awp_skip ?_
  show awp _ _ _ _
  refine awp_seq ?_
  refine awp_block ?_
  refine awp_seqR fun K hK => ?_
  simp (maxSteps := 2000000) (disch := omega) [ints, rows, scal, wr64, wr8, hcut, hkl, teO]
  (repeat' first | apply hK | apply And.intro) <;> try first | omega | rfl | (simp <;> omega)
  refine awp_R fun K hK => ?_
  simp (maxSteps := 2000000) (disch := omega) [ints, rows, scal, wr64, wr8, teO]
  (repeat' apply And.intro)
  all_goals (try omega)
  refine call_ruleK (caps := []) (hA) [0, 1] [0, 1] 1 rfl rfl rfl rfl (by kernel_rfl) (by simp) ?_ ?_ (by simp) rfl (by simp) ⟨.inr (.inr ⟨rfl, by simp, by simp⟩), .inr (.inr ⟨rfl, by simp, by simp⟩), trivial⟩ (by simp [tmV, abV, bxO, teO, hi0, ho0, hw0, hc0, hi1, ho1, hw1, hc1]) ?_
  ·simp [scal, rows, ints, tmV, abV, bxO, teO, hi0, ho0, hw0, hc0, hi1, ho1, hw1, hc1]
  ·simp [scal, rows, ints, tmV, abV, bxO, teO, hi0, ho0, hw0, hc0, hi1, ho1, hw1, hc1]
  simp (maxSteps := 2000000) (disch := omega) [ints, rows, scal, wr64, wr8, teO, bxO, hi0, ho0, hw0, hc0, hi1, ho1, hw1, hc1]
  (repeat' first | apply hK | apply And.intro) <;> try first | omega | rfl | (simp <;> omega)
  show awp _ _ _ _
  refine awp_R fun K hK => ?_
  simp (maxSteps := 2000000) (disch := omega) [ints, rows, scal, wr64, wr8]
  (repeat' first | apply hK | apply And.intro) <;> try first | omega | rfl | (simp <;> omega)
  refine ⟨k + 1, by omega, by omega, ?_⟩
  refine wk_list [(0, some 0), (1, some 1), (2, some 2)] rfl ?_ ?_ ?_ ?_
  all_goals try simp [ints, teO, bxO, hi0, ho0, hw0, hc0, hi1, ho1, hw1, hc1]
 ·obtain rfl : k = t.args.length := by omega
  rw [List.take_length]
  refine awp_cond (b := false) (p := 2) (by simp [scal] <;> omega) ?_
  refine awp_exit ?_
  refine ⟨⟨.inl rfl, _, [(0, some 0), (1, some 1)], rfl, ?_, ?_, ?_, ?_⟩, ?_⟩
  all_goals simp [bxO, ghB, List.range_succ, tmV, abV, hi0, ho0, hw0, hc0, hi1, ho1, hw1, hc1]

end Go.Proofs.YtghnmmfkckneaaaGreat.M

namespace Go.Proofs.YtghnmmfkckneaaaGreat.M
open Go.RowKit
set_option linter.unusedVariables false
set_option linter.unusedSimpArgs false

def vaS (s : Int) (h a : Int × Int) : Int := if h.1 = 2 then (if s < h.2 + 1 then h.2 + 1 else s) else s
def hoS (s : Bool) (h a : Int × Int) : Bool := s || decide (h.1 = 1)
mutual
theorem vis_va : ∀ (t : Tm) (s : Int) (a : Int × Int), t.ok = true → 0 ≤ s → t.vis vaS s a = max s (t.gr : Int)
 | .mk o n l, s, a, hok, hs => by
  obtain ⟨hwf, hl⟩ := ok_wf hok
  rw [Tm.vis, Tm.gr]
  have h1 : vaS s (o, n) a = max s ((if o = 2 then n.toNat + 1 else 0 : Nat) : Int) := by
   unfold vaS
   by_cases h : o = 2
   ·rw [if_pos h, if_pos h]; simp only; split <;> omega
   ·rw [if_neg h, if_neg h]; omega
  rw [h1, visL_va l _ _ hl (by omega)]
  omega
theorem visL_va : ∀ (l : List Tm) (s : Int) (a : Int × Int), okL' l = true → 0 ≤ s → visL vaS s a l = max s (grL l : Int)
 | [], s, a, _, hs => by rw [visL, grL]; omega
 | t :: l, s, a, hok, hs => by
  have hok2 : t.ok = true ∧ okL' l = true := by simpa [okL'] using hok
  rw [visL, grL, vis_va t s a hok2.1 hs, visL_va l _ a hok2.2 (by omega)]
  omega
end
mutual
theorem vis_ho : ∀ (t : Tm) (s : Bool) (a : Int × Int), t.vis hoS s a = (s || t.has1)
 | .mk o n l, s, a => by
  rw [Tm.vis, Tm.has1, visL_ho l]
  unfold hoS
  rw [Bool.or_assoc]
theorem visL_ho : ∀ (l : List Tm) (s : Bool) (a : Int × Int), visL hoS s a l = (s || has1L l)
 | [], s, a => by rw [visL, has1L, Bool.or_false]
 | t :: l, s, a => by rw [visL, has1L, vis_ho t s a, visL_ho l, Bool.or_assoc]
end
theorem grL_take {l : List Tm} {k : Nat} (h : k < l.length) : grL (l.take (k + 1)) = max (grL (l.take k)) l[k].gr := by
 have : ∀ l r : List Tm, grL (l ++ r) = max (grL l) (grL r) := fun l r => by
  induction l with
  | nil => rw [List.nil_append, grL]; omega
  | cons a l ih => rw [List.cons_append, grL, grL, ih]; omega
 rw [List.take_succ_eq_append_getElem h, this, grL, grL]
 omega
theorem has1L_take {l : List Tm} {k : Nat} (h : k < l.length) : has1L (l.take (k + 1)) = (has1L (l.take k) || l[k].has1) := by
 have : ∀ l r : List Tm, has1L (l ++ r) = (has1L l || has1L r) := fun l r => by
  induction l with
  | nil => rw [List.nil_append, has1L, Bool.false_or]
  | cons a l ih => rw [List.cons_append, has1L, has1L, ih, Bool.or_assoc]
 rw [List.take_succ_eq_append_getElem h, this, has1L, has1L, Bool.or_false]
def inL (s : Int) : List T := [.int .i64 s]
def boL (s : Bool) : List T := [.bool s]
theorem tsInt (h : 3 < Tryz.prog.types.size) : (Tryz.prog.types[3]'h).size = 1 := by rfl
theorem tsBool (h : 4 < Tryz.prog.types.size) : (Tryz.prog.types[4]'h).size = 1 := by rfl
set_option maxRecDepth 100000 in
set_option maxHeartbeats 8000000 in
theorem vars1_fn (s : Int) (t : Tm) (a : Int × Int) (ho : t.ok = true) : FnS Tryz.prog 84 [tmV 0 t, abV a, .ptr 0 0 1] [bxO 3 (inL s)] (.tup []) [bxO 3 (inL (vaS s (t.op, t.n) a))] := by
 have hwf : t.wf = true := by rw [ok_eq, Bool.and_eq_true] at ho; exact ho.1
 unfold Tm.wf at hwf
 rw [decide_eq_true_iff] at hwf
 refine fn_intro Tryz.func84 rfl (by simp [Tryz.f84]) ?_
 rw [show Tryz.f84.ntmps = 13 from rfl, show Tryz.f84.results = #[] from rfl]
 refine awp_seqR fun K hK => ?_
 simp (maxSteps := 2000000) (disch := omega) [ints, rows, scal, wr64, wr8, tmV, abV, bxO, scC, inL]
 (repeat' first | apply hK | apply And.intro) <;> try first | omega | rfl | (simp <;> omega)
 refine awp_seqR fun K hK => ?_
 simp (maxSteps := 2000000) (disch := omega) [ints, rows, scal, wr64, wr8, tsTerm, bxO, scC, inL]
 (repeat' first | apply hK | apply And.intro) <;> try first | omega | rfl | (simp <;> omega)
 by_cases e : t.op = 2
 ·have hr : vaS s (t.op, t.n) a = if s < t.n + 1 then t.n + 1 else s := by unfold vaS; rw [if_pos e]
  refine awp_cond (b := true) (p := 2) (by simp [scal, e] <;> omega) ?_
  refine awp_R fun K hK => ?_
  simp (maxSteps := 2000000) (disch := omega) [ints, rows, scal, wr64, wr8, bxO, scC, inL]
  (repeat' first | apply hK | apply And.intro) <;> try first | omega | rfl | (simp <;> omega)
  refine ⟨_, [(0, some 0)], (by first | rfl | (simp [ints, rows, scal, tmV, abV, bxO, scC, inL, hr]; rfl)), ?_, ?_, ?_, ?_⟩
  all_goals try simp [ints, rows, scal, tmV, abV, bxO, scC, inL, hr]
 ·have hr : vaS s (t.op, t.n) a = s := by unfold vaS; rw [if_neg e]
  refine awp_cond (b := false) (p := 2) (by simp [scal, e] <;> omega) ?_
  refine awp_skip ?_
  refine ⟨⟨.inl rfl, _, [(0, some 0)], rfl, ?_, ?_, ?_, ?_⟩, ?_⟩
  all_goals simp [tmV, abV, bxO, scC, inL, hr]
set_option maxRecDepth 100000 in
set_option maxHeartbeats 8000000 in
theorem hasOne1_fn (s : Bool) (t : Tm) (a : Int × Int) (ho : t.ok = true) : FnS Tryz.prog 89 [tmV 0 t, abV a, .ptr 0 0 1] [bxO 4 (boL s)] (.tup []) [bxO 4 (boL (hoS s (t.op, t.n) a))] := by
 refine fn_intro Tryz.func89 rfl (by simp [Tryz.f89]) ?_
 rw [show Tryz.f89.ntmps = 11 from rfl, show Tryz.f89.results = #[] from rfl]
 refine awp_seqR fun K hK => ?_
 simp (maxSteps := 2000000) (disch := omega) [ints, rows, scal, wr64, wr8, tmV, abV, bxO, scC, boL]
 (repeat' first | apply hK | apply And.intro) <;> try first | omega | rfl | (simp <;> omega)
 cases s with
 | true =>
  refine awp_R fun K hK => ?_
  simp (maxSteps := 2000000) (disch := omega) [ints, rows, scal, wr64, wr8, tsTerm, bxO, scC, boL]
  (repeat' first | apply hK | apply And.intro) <;> try first | omega | rfl | (simp <;> omega)
  refine ⟨_, [(0, some 0)], (by first | rfl | (simp [ints, rows, scal, tmV, abV, bxO, scC, boL, hoS]; rfl)), ?_, ?_, ?_, ?_⟩
  all_goals try simp [ints, rows, scal, tmV, abV, bxO, scC, boL, hoS]
 | false =>
  refine awp_R fun K hK => ?_
  simp (maxSteps := 2000000) (disch := omega) [ints, rows, scal, wr64, wr8, tsTerm, bxO, scC, boL]
  (repeat' first | apply hK | apply And.intro) <;> try first | omega | rfl | (simp <;> omega)
  refine ⟨_, [(0, some 0)], (by first | rfl | (simp [ints, rows, scal, tmV, abV, bxO, scC, boL, hoS]; rfl)), ?_, ?_, ?_, ?_⟩
  all_goals try simp [ints, rows, scal, tmV, abV, bxO, scC, boL, hoS]
  all_goals (by_cases h : t.op = 1 <;> simp [h])
set_option maxRecDepth 100000 in
set_option maxHeartbeats 8000000 in
theorem vars_fn (ts : List Tm) (hts : ts.length ≤ 1000) (hok : ∀ t ∈ ts, t.ok = true ∧ t.sz ≤ 1000) : FnA Tryz.prog 48 [.t 0 (.sl 3 (cellsL ts))] (.t 2 (.int .i64 (grL ts : Nat))) := by
 refine fn_intro Tryz.func48 rfl (by simp [Tryz.f48]) ?_
 rw [show Tryz.f48.ntmps = 18 from rfl, show Tryz.f48.results = #[.tmp 2] from rfl]
 refine awp_seqR fun K hK => ?_
 simp (maxSteps := 2000000) (disch := omega) [ints, rows, scal, wr64, wr8]
 (repeat' first | apply hK | apply And.intro) <;> try first | omega | rfl | (simp <;> omega)
 refine awp_seqR fun K hK => ?_
 simp (maxSteps := 2000000) (disch := omega) [ints, rows, scal, wr64, wr8, tsInt]
 (repeat' first | apply hK | apply And.intro) <;> try first | omega | rfl | (simp <;> omega)
 refine awp_seq ?_
 refine awp_seqR fun K hK => ?_
 simp (maxSteps := 2000000) (disch := omega) [ints, rows, scal, wr64, wr8]
 (repeat' first | apply hK | apply And.intro) <;> try first | omega | rfl | (simp <;> omega)
 refine awp_block ?_
 refine awp_loop (fun k : Nat => mkS [(3, .ptr 0 0 1), (6, .t 0 (.sl 3 (cellsL ts))), (7, .t 2 (.int .i64 ts.length)), (8, .t 2 (.int .i64 k))] [(0, bxO 3 (inL (grL (ts.take k) : Nat)))] 1 18 [.any]) (fun k => k ≤ ts.length) (fun k => ts.length - k) ?_ ?_
 ·refine ⟨0, by omega, ?_⟩
  refine wk_list [(0, some 1000000)] rfl ?_ ?_ ?_ ?_
  all_goals try simp [ints, bxO, scC, inL, grL, tsInt]
 intro k hk
 refine awp_seqR fun K hK => ?_
 simp (maxSteps := 2000000) (disch := omega) [ints, rows, scal, wr64, wr8]
 (repeat' first | apply hK | apply And.intro) <;> try first | omega | rfl | (simp <;> omega)
 refine awp_seq ?_
 by_cases hkl : k < ts.length
 ·obtain ⟨b, hb⟩ : ∃ b, b = ts[k] := ⟨_, rfl⟩
  have hcut := cellsL_cut ts k hkl
  have hgt := grL_take hkl
  rw [← hb] at hcut hgt
  rw [Tm.cells_eq] at hcut
  obtain ⟨hbo, hbs⟩ := hok b (by rw [hb]; exact List.getElem_mem hkl)
  have hV := visit1_fn (S := Int) (L0 := inL) (ty0 := 3) (c0 := 1) (F := 84) (by kernel_rfl) vaS (fun s x hx => by simp [inL] at hx; subst hx; rfl) (fun s => rfl) vars1_fn b (grL (ts.take k) : Nat) (0, 0) hbo hbs
  rw [vis_va b _ _ hbo (by omega), show max ((grL (ts.take k) : Nat) : Int) (b.gr : Int) = ((grL (ts.take (k + 1)) : Nat) : Int) by rw [hgt]; omega] at hV
  refine awp_cond (b := true) (p := 2) (by simp [scal, hkl] <;> omega) ?_
  refine awp_skip ?_
  show awp _ _ _ _
  refine awp_seq ?_
  refine awp_block ?_
  refine awp_seqR fun K hK => ?_
  simp (maxSteps := 2000000) (disch := omega) [ints, rows, scal, wr64, wr8, hcut, hkl]
  (repeat' first | apply hK | apply And.intro) <;> try first | omega | rfl | (simp <;> omega)
  refine awp_R fun K hK => ?_
  simp (maxSteps := 2000000) (disch := omega) [ints, rows, scal, wr64, wr8, tsTerm]
  (repeat' apply And.intro)
  all_goals (try omega)
  refine call_ruleK (caps := []) (hV) [0] [0] 1 rfl rfl rfl rfl (by kernel_rfl) (by simp) ?_ ?_ (by simp) rfl (by simp) ⟨.inr (.inr ⟨rfl, by simp, by simp⟩), trivial⟩ (by simp [tmV, abV, bxO, scC, inL]) ?_
  ·simp [scal, rows, ints, tmV, abV, bxO, scC, inL]
  ·simp [scal, rows, ints, tmV, abV, bxO, scC, inL]
  simp (maxSteps := 2000000) (disch := omega) [ints, rows, scal, wr64, wr8, bxO, scC, inL]
  (repeat' first | apply hK | apply And.intro) <;> try first | omega | rfl | (simp <;> omega)
  show awp _ _ _ _
  refine awp_R fun K hK => ?_
  simp (maxSteps := 2000000) (disch := omega) [ints, rows, scal, wr64, wr8]
  (repeat' first | apply hK | apply And.intro) <;> try first | omega | rfl | (simp <;> omega)
  refine ⟨k + 1, by omega, by omega, ?_⟩
  refine wk_list [(0, some 0)] rfl ?_ ?_ ?_ ?_
  all_goals try simp [ints, bxO, scC, inL]
 ·obtain rfl : k = ts.length := by omega
  rw [List.take_length]
  refine awp_cond (b := false) (p := 2) (by simp [scal] <;> omega) ?_
  refine awp_exit ?_
  show awp _ _ _ _
  refine awp_seqR fun K hK => ?_
  simp (maxSteps := 2000000) (disch := omega) [ints, rows, scal, wr64, wr8, bxO, scC, inL]
  (repeat' first | apply hK | apply And.intro) <;> try first | omega | rfl | (simp <;> omega)
  refine awp_ret ?_
  refine ⟨⟨.inr rfl, _, [], rfl, trivial, trivial, by simp, ?_⟩, by simp⟩
  simp
set_option maxRecDepth 100000 in
set_option maxHeartbeats 8000000 in
theorem hasOne_fn (ts : List Tm) (hts : ts.length ≤ 1000) (hok : ∀ t ∈ ts, t.ok = true ∧ t.sz ≤ 1000) : FnA Tryz.prog 50 [.t 0 (.sl 3 (cellsL ts))] (.t 2 (.bool (has1L ts))) := by
 refine fn_intro Tryz.func50 rfl (by simp [Tryz.f50]) ?_
 rw [show Tryz.f50.ntmps = 18 from rfl, show Tryz.f50.results = #[.tmp 2] from rfl]
 refine awp_seqR fun K hK => ?_
 simp (maxSteps := 2000000) (disch := omega) [ints, rows, scal, wr64, wr8]
 (repeat' first | apply hK | apply And.intro) <;> try first | omega | rfl | (simp <;> omega)
 refine awp_seqR fun K hK => ?_
 simp (maxSteps := 2000000) (disch := omega) [ints, rows, scal, wr64, wr8, tsBool]
 (repeat' first | apply hK | apply And.intro) <;> try first | omega | rfl | (simp <;> omega)
 refine awp_seq ?_
 refine awp_seqR fun K hK => ?_
 simp (maxSteps := 2000000) (disch := omega) [ints, rows, scal, wr64, wr8]
 (repeat' first | apply hK | apply And.intro) <;> try first | omega | rfl | (simp <;> omega)
 refine awp_block ?_
 refine awp_loop (fun k : Nat => mkS [(3, .ptr 0 0 1), (6, .t 0 (.sl 3 (cellsL ts))), (7, .t 2 (.int .i64 ts.length)), (8, .t 2 (.int .i64 k))] [(0, bxO 4 (boL (has1L (ts.take k))))] 1 18 [.any]) (fun k => k ≤ ts.length) (fun k => ts.length - k) ?_ ?_
 ·refine ⟨0, by omega, ?_⟩
  refine wk_list [(0, some 1000000)] rfl ?_ ?_ ?_ ?_
  all_goals try simp [ints, bxO, scC, boL, has1L, tsBool]
 intro k hk
 refine awp_seqR fun K hK => ?_
 simp (maxSteps := 2000000) (disch := omega) [ints, rows, scal, wr64, wr8]
 (repeat' first | apply hK | apply And.intro) <;> try first | omega | rfl | (simp <;> omega)
 refine awp_seq ?_
 by_cases hkl : k < ts.length
 ·obtain ⟨b, hb⟩ : ∃ b, b = ts[k] := ⟨_, rfl⟩
  have hcut := cellsL_cut ts k hkl
  have hgt := has1L_take hkl
  rw [← hb] at hcut hgt
  rw [Tm.cells_eq] at hcut
  obtain ⟨hbo, hbs⟩ := hok b (by rw [hb]; exact List.getElem_mem hkl)
  have hV := visit1_fn (S := Bool) (L0 := boL) (ty0 := 4) (c0 := 1) (F := 89) (by kernel_rfl) hoS (fun s x hx => by simp [boL] at hx; subst hx; rfl) (fun s => rfl) hasOne1_fn b (has1L (ts.take k)) (0, 0) hbo hbs
  rw [vis_ho b, ← hgt] at hV
  refine awp_cond (b := true) (p := 2) (by simp [scal, hkl] <;> omega) ?_
  refine awp_skip ?_
  show awp _ _ _ _
  refine awp_seq ?_
  refine awp_block ?_
  refine awp_seqR fun K hK => ?_
  simp (maxSteps := 2000000) (disch := omega) [ints, rows, scal, wr64, wr8, hcut, hkl]
  (repeat' first | apply hK | apply And.intro) <;> try first | omega | rfl | (simp <;> omega)
  refine awp_R fun K hK => ?_
  simp (maxSteps := 2000000) (disch := omega) [ints, rows, scal, wr64, wr8, tsTerm]
  (repeat' apply And.intro)
  all_goals (try omega)
  refine call_ruleK (caps := []) (hV) [0] [0] 1 rfl rfl rfl rfl (by kernel_rfl) (by simp) ?_ ?_ (by simp) rfl (by simp) ⟨.inr (.inr ⟨rfl, by simp, by simp⟩), trivial⟩ (by simp [tmV, abV, bxO, scC, boL]) ?_
  ·simp [scal, rows, ints, tmV, abV, bxO, scC, boL]
  ·simp [scal, rows, ints, tmV, abV, bxO, scC, boL]
  simp (maxSteps := 2000000) (disch := omega) [ints, rows, scal, wr64, wr8, bxO, scC, boL]
  (repeat' first | apply hK | apply And.intro) <;> try first | omega | rfl | (simp <;> omega)
  show awp _ _ _ _
  refine awp_R fun K hK => ?_
  simp (maxSteps := 2000000) (disch := omega) [ints, rows, scal, wr64, wr8]
  (repeat' first | apply hK | apply And.intro) <;> try first | omega | rfl | (simp <;> omega)
  refine ⟨k + 1, by omega, by omega, ?_⟩
  refine wk_list [(0, some 0)] rfl ?_ ?_ ?_ ?_
  all_goals try simp [ints, bxO, scC, boL]
 ·obtain rfl : k = ts.length := by omega
  rw [List.take_length]
  refine awp_cond (b := false) (p := 2) (by simp [scal] <;> omega) ?_
  refine awp_exit ?_
  show awp _ _ _ _
  refine awp_seqR fun K hK => ?_
  simp (maxSteps := 2000000) (disch := omega) [ints, rows, scal, wr64, wr8, bxO, scC, boL]
  (repeat' first | apply hK | apply And.intro) <;> try first | omega | rfl | (simp <;> omega)
  refine awp_ret ?_
  refine ⟨⟨.inr rfl, _, [], rfl, trivial, trivial, by simp, ?_⟩, by simp⟩
  simp
theorem vId_0 {a b : Tm} (h : a.val = true ∧ b.val = true) : vId a b = 0 := by unfold vId vTm; rw [if_pos h.1, if_pos h.2]
theorem vId_1 {a b : Tm} (h : ¬ (a.val = true ∧ b.val = true)) : vId a b = 21 := by
 unfold vId vTm
 by_cases h1 : a.val = true
 ·rw [if_pos h1, if_neg (fun h2 => h ⟨h1, h2⟩)]
 ·rw [if_neg h1]
theorem range_6 : List.range 6 = [0, 1, 2, 3, 4, 5] := rfl
theorem pair_ok {a b : Tm} (h : a.val = true ∧ b.val = true) : ∀ t ∈ [a, b], t.ok = true ∧ t.sz ≤ 1000 := fun t ht => by
 simp at ht
 rcases ht with rfl | rfl
 ·have := val_ok h.1; exact ⟨this.1, by omega⟩
 ·have := val_ok h.2; exact ⟨this.1, by omega⟩
theorem cells2 (a b : Tm) : cellsL [a, b] = [.int .i64 a.op, .int .i64 a.n, .sl 3 (cellsL a.args), .int .i64 b.op, .int .i64 b.n, .sl 3 (cellsL b.args)] := by
 show a.cells ++ (b.cells ++ []) = _
 rw [Tm.cells_eq, Tm.cells_eq]
 rfl
theorem cells1 (a : Tm) : cellsL [a] = [.int .i64 a.op, .int .i64 a.n, .sl 3 (cellsL a.args)] := by
 show a.cells ++ [] = _
 rw [Tm.cells_eq]
 rfl
end Go.Proofs.YtghnmmfkckneaaaGreat.M

namespace Go.Proofs.YtghnmmfkckneaaaGreat.M
open Go.RowKit
set_option linter.unusedVariables false
set_option linter.unusedSimpArgs false

theorem mulVal_fn (t : List (List Int)) : FnA Tryz.prog 46 [.t 0 (rows t)] (.t 2 (.int .i64 (vErr t))) := by
 intro w V ob vs hm hn hv
 have g0 := (hv 0 _ rfl).rep
 rw [vs1 hn]
 refine (validate_any w _ t (rep_rows mem_cell g0)).mono ?_
 rintro e w' ⟨rfl, hbel⟩
 exact ⟨_, ob, rfl, hm.after hbel, .mkInt _ _ _ _, gh_any (by simp)⟩
def isId (T : Nat → Nat → Nat) (k e : Nat) : Bool := (List.range k).all fun x => decide (T e x = x) && decide (T x e = x)
theorem isId_succ (T : Nat → Nat → Nat) (k e : Nat) : isId T (k + 1) e = (isId T k e && (decide (T e k = k) && decide (T k e = k))) := by
 unfold isId
 rw [List.range_succ, List.all_append]
 simp
theorem isId_le {T : Nat → Nat → Nat} {e : Nat} : ∀ {k n : Nat}, k ≤ n → isId T k e = false → isId T n e = false := fun {k n} h hf => by
 obtain ⟨d, rfl⟩ : ∃ d, n = k + d := ⟨n - k, by omega⟩
 clear h
 induction d with
 | zero => exact hf
 | succ d ih => rw [show k + (d + 1) = (k + d) + 1 by omega, isId_succ, ih]; rfl
def idG (T : Nat → Nat → Nat) (n : Nat) : Nat → Nat → Int
 | 0, e => -1
 | f + 1, e => if isId T n e = true then (e : Int) else idG T n f (e + 1)
def idI (T : Nat → Nat → Nat) (n : Nat) : Int := idG T n n 0
set_option maxRecDepth 100000 in
set_option maxHeartbeats 8000000 in
theorem mulId1_fn (tb : List (List Int)) (n : Nat) (T : Nat → Nat → Nat) (ht : TbL tb n T) (hn : n ≤ 1000) (e : Nat) (he : e < n) :
  FnS Tryz.prog 88 [.t 2 (.int .i64 (e : Nat)), .ptr 0 0 1] [.box 25 [.t 1 (rows tb)]] (.t 2 (.bool (isId T n e))) [.box 25 [.t 1 (rows tb)]] := by
 have htl := ht.len
 refine fn_intro Tryz.func88 rfl (by simp [Tryz.f88]) ?_
 rw [show Tryz.f88.ntmps = 31 from rfl, show Tryz.f88.results = #[.tmp 3] from rfl]
 refine awp_seqR fun K hK => ?_
 simp (maxSteps := 2000000) (disch := omega) [ints, rows, scal, wr64, wr8]
 (repeat' first | apply hK | apply And.intro) <;> try first | omega | rfl | (simp <;> omega)
 refine awp_seq ?_
 refine awp_seqR fun K hK => ?_
 simp (maxSteps := 2000000) (disch := omega) [ints, rows, scal, wr64, wr8, rows]
 (repeat' first | apply hK | apply And.intro) <;> try first | omega | rfl | (simp <;> omega)
 refine awp_block ?_
 refine awp_loop (fun k : Nat => mkS [(0, .t 2 (.int .i64 (e : Nat))), (1, .ptr 0 0 1), (6, .t 2 (.int .i64 (n : Nat))), (7, .t 2 (.int .i64 (k : Nat)))] [(0, .box 25 [.t 1 (rows tb)])] 1 31 [.any, .ptr 0 0 1]) (fun k => k ≤ n ∧ isId T k e = true) (fun k => n - k) ?_ ?_
 ·refine ⟨0, ⟨by omega, rfl⟩, ?_⟩
  refine wk_list [(0, some 0)] rfl ?_ ?_ ?_ ?_
  all_goals try simp [ints, rows, htl]
 rintro k ⟨hk, hid⟩
 refine awp_seqR fun K hK => ?_
 simp (maxSteps := 2000000) (disch := omega) [ints, rows, scal, wr64, wr8]
 (repeat' first | apply hK | apply And.intro) <;> try first | omega | rfl | (simp <;> omega)
 refine awp_seq ?_
 by_cases hkn : k < n
 ·obtain ⟨g1, g2, g3⟩ := ht.get he hkn
  obtain ⟨g4, g5, g6⟩ := ht.get hkn he
  have hs := isId_succ T k e
  rw [hid, Bool.true_and] at hs
  refine awp_cond (b := true) (p := 2) (by simp [scal, hkn] <;> omega) ?_
  refine awp_skip ?_
  show awp _ _ _ _
  refine awp_seq ?_
  refine awp_block ?_
  refine awp_seqR fun K hK => ?_
  simp (maxSteps := 2000000) (disch := omega) [ints, rows, scal, wr64, wr8]
  (repeat' first | apply hK | apply And.intro) <;> try first | omega | rfl | (simp <;> omega)
  by_cases e1 : T e k = k
  ·by_cases e2 : T k e = k
   ·have hgo : isId T (k + 1) e = true := by rw [hs]; simp [e1, e2]
    have e1' : ((T e k : Nat) : Int) = (k : Int) := by rw [e1]
    have e2' : ((T k e : Nat) : Int) = (k : Int) := by rw [e2]
    refine awp_seqR fun K hK => ?_
    simp (maxSteps := 2000000) (disch := omega) [ints, rows, scal, wr64, wr8, rows, ints, g1, g2, g3, g4, g5, g6, e1, e2]
    (repeat' first | apply hK | apply And.intro) <;> try first | omega | rfl | (simp <;> omega)
    refine awp_cond (b := false) (p := 2) (by simp [scal, e1, e2] <;> omega) ?_
    refine awp_skip ?_
    show awp _ _ _ _
    refine awp_R fun K hK => ?_
    simp (maxSteps := 2000000) (disch := omega) [ints, rows, scal, wr64, wr8]
    (repeat' first | apply hK | apply And.intro) <;> try first | omega | rfl | (simp <;> omega)
    refine ⟨k + 1, ⟨by omega, hgo⟩, by omega, ?_⟩
    refine wk_list [(0, some 0)] rfl ?_ ?_ ?_ ?_
    all_goals try simp [ints, rows]
   ·have hno : isId T n e = false := isId_le (k := k + 1) (by omega) (by rw [hs]; simp [e2])
    refine awp_seqR fun K hK => ?_
    simp (maxSteps := 2000000) (disch := omega) [ints, rows, scal, wr64, wr8, rows, ints, g1, g2, g3, g4, g5, g6, e1, e2]
    (repeat' first | apply hK | apply And.intro) <;> try first | omega | rfl | (simp <;> omega)
    refine awp_cond (b := true) (p := 2) (by simp [scal, e1, e2] <;> omega) ?_
    refine awp_seqR fun K hK => ?_
    simp (maxSteps := 2000000) (disch := omega) [ints, rows, scal, wr64, wr8]
    (repeat' first | apply hK | apply And.intro) <;> try first | omega | rfl | (simp <;> omega)
    refine awp_ret ?_
    refine ⟨⟨.inr rfl, _, [(0, some 0)], (by first | rfl | (simp [ints, rows, scal, hno]; rfl)), ?_, ?_, ?_, ?_⟩, ?_⟩
    all_goals try simp [ints, rows, scal, hno]
  ·have hno : isId T n e = false := isId_le (k := k + 1) (by omega) (by rw [hs]; simp [e1])
   have e1b : (((T e k : Nat) : Int) != (k : Int)) = true := by simp; omega
   refine awp_seqR fun K hK => ?_
   simp (maxSteps := 2000000) (disch := omega) [ints, rows, scal, wr64, wr8, rows, ints, g1, g2, g3, g4, g5, g6, e1, e1b]
   (repeat' first | apply hK | apply And.intro) <;> try first | omega | rfl | (simp <;> omega)
   refine awp_cond (b := true) (p := 2) (by simp [scal, e1] <;> omega) ?_
   refine awp_seqR fun K hK => ?_
   simp (maxSteps := 2000000) (disch := omega) [ints, rows, scal, wr64, wr8]
   (repeat' first | apply hK | apply And.intro) <;> try first | omega | rfl | (simp <;> omega)
   refine awp_ret ?_
   refine ⟨⟨.inr rfl, _, [(0, some 0)], (by first | rfl | (simp [ints, rows, scal, hno]; rfl)), ?_, ?_, ?_, ?_⟩, ?_⟩
   all_goals try simp [ints, rows, scal, hno]
 ·obtain rfl : k = n := by omega
  refine awp_cond (b := false) (p := 2) (by simp [scal] <;> omega) ?_
  refine awp_exit ?_
  show awp _ _ _ _
  refine awp_seqR fun K hK => ?_
  simp (maxSteps := 2000000) (disch := omega) [ints, rows, scal, wr64, wr8]
  (repeat' first | apply hK | apply And.intro) <;> try first | omega | rfl | (simp <;> omega)
  refine awp_ret ?_
  refine ⟨⟨.inr rfl, _, [(0, some 0)], (by first | rfl | (simp [ints, rows, scal, hid]; rfl)), ?_, ?_, ?_, ?_⟩, ?_⟩
  all_goals try simp [ints, rows, scal, hid]
set_option maxRecDepth 100000 in
set_option maxHeartbeats 8000000 in
theorem mulIdx_fn (tb : List (List Int)) (n : Nat) (T : Nat → Nat → Nat) (ht : TbL tb n T) (hn : n ≤ 1000) :
  FnS Tryz.prog 86 [.t 0 (ints (tab n fun i => (i : Int))), .fn 88 [.ptr 0 0 1]] [.box 25 [.t 1 (rows tb)]] (.t 2 (.int .i64 (idI T n))) [.box 25 [.t 1 (rows tb)]] := by
 refine fn_intro Tryz.func86 rfl (by simp [Tryz.f86]) ?_
 rw [show Tryz.f86.ntmps = 19 from rfl, show Tryz.f86.results = #[.tmp 4] from rfl]
 refine awp_seqR fun K hK => ?_
 simp (maxSteps := 2000000) (disch := omega) [ints, rows, scal, wr64, wr8]
 (repeat' first | apply hK | apply And.intro) <;> try first | omega | rfl | (simp <;> omega)
 refine awp_seq ?_
 refine awp_seqR fun K hK => ?_
 simp (maxSteps := 2000000) (disch := omega) [ints, rows, scal, wr64, wr8, ints]
 (repeat' first | apply hK | apply And.intro) <;> try first | omega | rfl | (simp <;> omega)
 refine awp_block ?_
 refine awp_loop (fun k : Nat => mkS [(0, .t 0 (ints (tab n fun i => (i : Int)))), (1, .fn 88 [.ptr 0 0 1]), (7, .t 2 (.int .i64 (n : Nat))), (8, .t 2 (.int .i64 (k : Nat)))] [(0, .box 25 [.t 1 (rows tb)])] 1 19 [.any, .any]) (fun k => k ≤ n ∧ idI T n = idG T n (n - k) k) (fun k => n - k) ?_ ?_
 ·refine ⟨0, ⟨by omega, rfl⟩, ?_⟩
  refine wk_list [(0, some 0)] rfl ?_ ?_ ?_ ?_
  all_goals try simp [ints, ints, rows]
 rintro k ⟨hk, hid⟩
 refine awp_seqR fun K hK => ?_
 simp (maxSteps := 2000000) (disch := omega) [ints, rows, scal, wr64, wr8]
 (repeat' first | apply hK | apply And.intro) <;> try first | omega | rfl | (simp <;> omega)
 refine awp_seq ?_
 by_cases hkn : k < n
 ·have h1 := mulId1_fn tb n T ht hn k hkn
  rw [show n - k = (n - (k + 1)) + 1 by omega, idG] at hid
  refine awp_cond (b := true) (p := 2) (by simp [scal, hkn] <;> omega) ?_
  refine awp_skip ?_
  show awp _ _ _ _
  refine awp_seq ?_
  refine awp_block ?_
  refine awp_seqR fun K hK => ?_
  simp (maxSteps := 2000000) (disch := omega) [ints, rows, scal, wr64, wr8]
  (repeat' first | apply hK | apply And.intro) <;> try first | omega | rfl | (simp <;> omega)
  refine awp_seqR fun K hK => ?_
  simp (maxSteps := 2000000) (disch := omega) [ints, rows, scal, wr64, wr8, ints, hkn]
  (repeat' apply And.intro)
  all_goals (try omega)
  refine call_rule (caps := [.ptr 0 0 1]) (h1) [0] [0] 1 rfl rfl rfl (by simp) (by first | assumption | kernel_rfl) (by simp) ?_ ?_ (by simp) rfl (by simp) ⟨.inr ⟨rfl, 1, _, _, _, _, _, rfl, rfl, (by first | rfl | simp), rfl, (by first | rfl | simp)⟩, trivial⟩ (by simp) ?_
  ·simp [scal, rows, ints]
  ·simp [scal, rows, ints]
  simp (maxSteps := 2000000) (disch := omega) [ints, rows, scal, wr64, wr8, rows]
  (repeat' first | apply hK | apply And.intro) <;> try first | omega | rfl | (simp <;> omega)
  by_cases e : isId T n k = true
  ·rw [if_pos e] at hid
   refine awp_cond (b := true) (p := 2) (by simp [scal, e] <;> omega) ?_
   refine awp_seqR fun K hK => ?_
   simp (maxSteps := 2000000) (disch := omega) [ints, rows, scal, wr64, wr8]
   (repeat' first | apply hK | apply And.intro) <;> try first | omega | rfl | (simp <;> omega)
   refine awp_ret ?_
   refine ⟨⟨.inr rfl, _, [(0, some 0)], (by first | rfl | (simp [ints, rows, scal, hid]; rfl)), ?_, ?_, ?_, ?_⟩, ?_⟩
   all_goals try simp [ints, rows, scal, hid]
  ·rw [if_neg e] at hid
   refine awp_cond (b := false) (p := 2) (by simp [scal, e] <;> omega) ?_
   refine awp_skip ?_
   show awp _ _ _ _
   refine awp_R fun K hK => ?_
   simp (maxSteps := 2000000) (disch := omega) [ints, rows, scal, wr64, wr8]
   (repeat' first | apply hK | apply And.intro) <;> try first | omega | rfl | (simp <;> omega)
   refine ⟨k + 1, ⟨by omega, hid⟩, by omega, ?_⟩
   refine wk_list [(0, some 0)] rfl ?_ ?_ ?_ ?_
   all_goals try simp [ints, rows]
 ·obtain rfl : k = n := by omega
  rw [Nat.sub_self] at hid
  have hid : idI T k = -1 := hid
  refine awp_cond (b := false) (p := 2) (by simp [scal] <;> omega) ?_
  refine awp_exit ?_
  show awp _ _ _ _
  refine awp_seqR fun K hK => ?_
  simp (maxSteps := 2000000) (disch := omega) [ints, rows, scal, wr64, wr8]
  (repeat' first | apply hK | apply And.intro) <;> try first | omega | rfl | (simp <;> omega)
  refine awp_ret ?_
  refine ⟨⟨.inr rfl, _, [(0, some 0)], (by first | rfl | (simp [ints, rows, scal, hid]; rfl)), ?_, ?_, ?_, ?_⟩, ?_⟩
  all_goals try simp [ints, rows, scal, hid]
set_option maxRecDepth 100000 in
set_option maxHeartbeats 4000000 in
theorem mulElems_fn (tb : List (List Int)) (hn : tb.length ≤ 1000000) : FnA Tryz.prog 87 [.t 0 (rows tb)] (.t 2 (ints (tab tb.length fun i => (i : Int)))) := by
 refine fn_intro Tryz.func87 rfl (by simp [Tryz.f87]) ?_
 rw [show Tryz.f87.ntmps = 19 from rfl, show Tryz.f87.results = #[.tmp 2] from rfl]
 refine awp_seqR fun K hK => ?_
 simp (maxSteps := 2000000) (disch := omega) [ints, rows, scal, wr64, wr8]
 (repeat' first | apply hK | apply And.intro) <;> try first | omega | rfl | (simp <;> omega)
 refine awp_seqR fun K hK => ?_
 simp (maxSteps := 2000000) (disch := omega) [ints, rows, scal, wr64, wr8, rows]
 (repeat' first | apply hK | apply And.intro) <;> try first | omega | rfl | (simp <;> omega)
 refine awp_seq ?_
 refine awp_seqR fun K hK => ?_
 simp (maxSteps := 2000000) (disch := omega) [ints, rows, scal, wr64, wr8]
 (repeat' first | apply hK | apply And.intro) <;> try first | omega | rfl | (simp <;> omega)
 refine awp_block ?_
 refine awp_loop (fun k : Nat => mkS [(3, .own 0 tb.length), (9, .t 2 (.int .i64 tb.length)), (10, .t 2 (.int .i64 k))] [(0, .row 3 1 2 (tab tb.length fun i => .int .i64 (if i < k then (i : Int) else 0)))] 1 19 [.any]) (fun k => k ≤ tb.length) (fun k => tb.length - k) ?_ ?_
 ·refine ⟨0, by omega, ?_⟩
  refine wk_list [(0, some 3000000)] rfl ?_ ?_ ?_ ?_
  all_goals try simp [ints, rep_tab]
 ·intro k hk
  refine awp_seqR fun K hK => ?_
  simp (maxSteps := 2000000) (disch := omega) [ints, rows, scal, wr64, wr8]
  (repeat' first | apply hK | apply And.intro) <;> try first | omega | rfl | (simp <;> omega)
  by_cases hlt : k < tb.length
  ·refine awp_seq ?_
   refine awp_cond (b := true) (p := 2) (by simp [scal, hlt] <;> omega) ?_
   refine awp_skip ?_
   refine awp_seq ?_
   refine awp_block ?_
   refine awp_seqR fun K hK => ?_
   simp (maxSteps := 2000000) (disch := omega) [ints, rows, scal, wr64, wr8]
   (repeat' first | apply hK | apply And.intro) <;> try first | omega | rfl | (simp <;> omega)
   refine awp_R fun K hK => ?_
   simp (maxSteps := 2000000) (disch := omega) [ints, rows, scal, wr64, wr8, hlt]
   (repeat' first | apply hK | apply And.intro) <;> try first | omega | rfl | (simp <;> omega)
   show awp _ _ _ _
   refine awp_R fun K hK => ?_
   simp (maxSteps := 2000000) (disch := omega) [ints, rows, scal, wr64, wr8]
   (repeat' first | apply hK | apply And.intro) <;> try first | omega | rfl | (simp <;> omega)
   refine ⟨k + 1, by omega, by omega, ?_⟩
   refine wk_list [(0, some 0)] rfl ?_ ?_ ?_ ?_
   all_goals try simp [ints]
   rw [tab_set]
   refine tab_congr (fun i hi => ?_)
   by_cases e : i = k
   ·simp [e]
   ·rw [if_neg e]
    by_cases e2 : i < k
    ·rw [if_pos e2, if_pos (by omega)]
    ·rw [if_neg e2, if_neg (by omega)]
  ·refine awp_seq ?_
   refine awp_cond (b := false) (p := 2) (by simp [scal, hlt] <;> omega) ?_
   refine awp_exit ?_
   show awp _ _ _ _
   refine awp_seqR fun K hK => ?_
   simp (maxSteps := 2000000) (disch := omega) [ints, rows, scal, wr64, wr8]
   (repeat' first | apply hK | apply And.intro) <;> try first | omega | rfl | (simp <;> omega)
   refine awp_ret ?_
   refine ⟨⟨.inr rfl, _, [], rfl, trivial, trivial, by simp [ints], ?_⟩, by simp [ints]⟩
   simp [ints]
   rw [tab_map]
   refine tab_congr (fun i hi => ?_)
   rw [if_pos (by omega)]
set_option maxRecDepth 100000 in
set_option maxHeartbeats 4000000 in
theorem mulValid_fn (tb : List (List Int)) (v1 : vErr tb = 0) : FnA Tryz.prog 85 [.t 0 (rows tb)] (.t 2 (.bool true)) := by
 have h1 := mulVal_fn tb
 rw [v1] at h1
 refine fn_intro Tryz.func85 rfl (by simp [Tryz.f85]) ?_
 rw [show Tryz.f85.ntmps = 6 from rfl, show Tryz.f85.results = #[.tmp 2] from rfl]
 refine awp_seqR fun K hK => ?_
 simp (maxSteps := 2000000) (disch := omega) [ints, rows, scal, wr64, wr8]
 (repeat' first | apply hK | apply And.intro) <;> try first | omega | rfl | (simp <;> omega)
 refine awp_seqR fun K hK => ?_
 simp (maxSteps := 2000000) (disch := omega) [ints, rows, scal, wr64, wr8]
 (repeat' apply And.intro)
 all_goals (try omega)
 refine call_rule (caps := []) (h1) [] [] 2 rfl rfl rfl rfl (by kernel_rfl) (by simp) ?_ trivial trivial rfl trivial trivial (by simp) ?_
 ·simp [scal, rows, ints]
 simp (maxSteps := 2000000) (disch := omega) [ints, rows, scal, wr64, wr8]
 (repeat' first | apply hK | apply And.intro) <;> try first | omega | rfl | (simp <;> omega)
 refine awp_ret ?_
 refine ⟨⟨.inr rfl, _, [], rfl, trivial, trivial, by simp, ?_⟩, by simp⟩
 simp
set_option maxRecDepth 100000 in
set_option maxHeartbeats 4000000 in
theorem mulId_fn (tb : List (List Int)) (v1 : vErr tb = 0) : FnA Tryz.prog 49 [.t 0 (rows tb)] (.t 2 (.int .i64 (idI (tabOf tb) tb.length))) := by
 obtain ⟨hl0, hl4⟩ := vErr_len v1
 have h1 := mulValid_fn tb v1
 have h2 := mulElems_fn tb (by omega)
 have h3 := mulIdx_fn tb tb.length (tabOf tb) (TbL.of v1) (by omega)
 refine fn_intro Tryz.func49 rfl (by simp [Tryz.f49]) ?_
 rw [show Tryz.f49.ntmps = 10 from rfl, show Tryz.f49.results = #[.tmp 2] from rfl]
 refine awp_seqR fun K hK => ?_
 simp (maxSteps := 2000000) (disch := omega) [ints, rows, scal, wr64, wr8]
 (repeat' first | apply hK | apply And.intro) <;> try first | omega | rfl | (simp <;> omega)
 refine awp_seq ?_
 refine awp_seqR fun K hK => ?_
 simp (maxSteps := 2000000) (disch := omega) [ints, rows, scal, wr64, wr8]
 (repeat' apply And.intro)
 all_goals (try omega)
 refine call_rule (caps := []) (h1) [] [] 2 rfl rfl rfl rfl (by kernel_rfl) (by simp) ?_ trivial trivial rfl trivial trivial (by simp) ?_
 ·simp [scal, rows, ints]
 simp (maxSteps := 2000000) (disch := omega) [ints, rows, scal, wr64, wr8]
 (repeat' first | apply hK | apply And.intro) <;> try first | omega | rfl | (simp <;> omega)
 refine awp_cond (b := false) (p := 2) (by simp [scal] <;> omega) ?_
 refine awp_skip ?_
 show awp _ _ _ _
 refine awp_seqR fun K hK => ?_
 simp (maxSteps := 2000000) (disch := omega) [ints, rows, scal, wr64, wr8]
 (repeat' apply And.intro)
 all_goals (try omega)
 refine call_rule (caps := []) (h2) [] [] 2 rfl rfl rfl rfl (by kernel_rfl) (by simp) ?_ trivial trivial rfl trivial trivial (by simp) ?_
 ·simp [scal, rows, ints]
 simp (maxSteps := 2000000) (disch := omega) [ints, rows, scal, wr64, wr8]
 (repeat' apply And.intro)
 all_goals (try omega)
 refine call_rule (caps := []) (h3) [0] [8000000] 0 rfl rfl rfl rfl (by kernel_rfl) (by simp) ?_ ?_ (by simp) rfl (by simp) ⟨.inl ⟨by omega, by omega⟩, trivial⟩ (by simp) ?_
 ·simp [scal, rows, ints]
 ·simp [scal, rows, ints]
 simp (maxSteps := 2000000) (disch := omega) [ints, rows, scal, wr64, wr8]
 (repeat' first | apply hK | apply And.intro) <;> try first | omega | rfl | (simp <;> omega)
 refine awp_ret ?_
 refine ⟨⟨.inr rfl, _, [], rfl, trivial, trivial, by simp, ?_⟩, by simp⟩
 simp

set_option linter.unusedSimpArgs false

def pwT (T : Nat → Nat → Nat) (x k : Nat) : List Int := tab (k + 1) fun j => ((pw T x j : Nat) : Int)
def pwO (T : Nat → Nat → Nat) (x k : Nat) : AObj := .row 3 1 2 (tab (k + 1) fun j => .int .i64 (pw T x j : Nat))
def PwG (T : Nat → Nat → Nat) (n x : Nat) (res : AV) : Prop := ∃ k i : Nat, i ≤ k ∧ k < n ∧ pw T x i = pw T x (k + 1) ∧ res = .tup [.t 2 (ints (pwT T x k)), .t 2 (.int .i64 (i : Nat))]
theorem pw_dist {T : Nat → Nat → Nat} {n x k : Nat} (hT : ∀ r c, r < n → c < n → T r c < n) (hx : x < n) (h : ∀ i j, i < j → j ≤ k → pw T x i ≠ pw T x j) : k < n := by
 rcases Nat.lt_or_ge k n with hk | hk
 ·exact hk
 ·obtain ⟨i, j, h1, h2, h3⟩ := pw_rep hT hx
  exact absurd h3 (h i j h1 (by omega))
theorem pwO_snoc {T : Nat → Nat → Nat} {x k : Nat} : (tab (k + 1) fun j => M.T.int .i64 (pw T x j : Nat)) ++ [M.T.int .i64 (pw T x (k + 1) : Nat)] = tab (k + 1 + 1) fun j => M.T.int .i64 (pw T x j : Nat) := by
 rw [tab_succ (k + 1)]
set_option maxRecDepth 100000 in
set_option maxHeartbeats 8000000 in
theorem powers_fn (tb : List (List Int)) (n : Nat) (T : Nat → Nat → Nat) (ht : TbL tb n T) (hn : n ≤ 1000) (x : Nat) (hx : x < n) :
  ∃ res, PwG T n x res ∧ FnA Tryz.prog 78 [.t 0 (rows tb), .t 2 (.int .i64 (x : Nat))] res := by
 refine fn_introE Tryz.func78 rfl (by simp [Tryz.f78]) ?_
 rw [show Tryz.f78.ntmps = 41 from rfl, show Tryz.f78.results = #[.tmp 4, .tmp 5] from rfl]
 refine awp_seqR fun K hK => ?_
 simp (maxSteps := 2000000) (disch := omega) [ints, rows, scal, wr64, wr8]
 (repeat' first | apply hK | apply And.intro) <;> try first | omega | rfl | (simp <;> omega)
 refine awp_seqR fun K hK => ?_
 simp (maxSteps := 2000000) (disch := omega) [ints, rows, scal, wr64, wr8]
 (repeat' first | apply hK | apply And.intro) <;> try first | omega | rfl | (simp <;> omega)
 refine awp_block ?_
 refine awp_loop (fun k : Nat => mkS [(0, .t 0 (rows tb)), (1, .t 2 (.int .i64 (x : Nat))), (6, .own 0 (k + 1))] [(0, pwO T x k)] 1 41 [.any, .any]) (fun k => ∀ i j, i < j → j ≤ k → pw T x i ≠ pw T x j) (fun k => n - k) ?_ ?_
 ·refine ⟨0, fun i j h1 h2 => by omega, ?_⟩
  refine wk_list [(0, some 3000000)] rfl ?_ ?_ ?_ ?_
  all_goals try simp [ints, pwO, tab, pw, itT, rows, ints]
 intro k hd
 have hkn := pw_dist ht.lt hx hd
 have hpl := pw_lt ht.lt hx k
 obtain ⟨g4, g5, g6⟩ := ht.get hpl hx
 have hps := pw_succ (T := T) x k
 refine awp_block ?_
 refine awp_seqR fun K hK => ?_
 simp (maxSteps := 2000000) (disch := omega) [ints, rows, scal, wr64, wr8, pwO, rows, ints, g4, g5, g6]
 (repeat' first | apply hK | apply And.intro) <;> try first | omega | rfl | (simp <;> omega)
 refine awp_weak (σ' := mkS [(0, .t 0 (rows tb)), (1, .t 2 (.int .i64 (x : Nat))), (6, .own 0 (k + 1)), (7, .t 2 (.int .i64 (pw T x (k + 1) : Nat)))] [(0, pwO T x k)] 1 41 [.any, .any]) ?_ ?_
 ·refine wk_list [(0, some 0)] rfl ?_ ?_ ?_ ?_
  all_goals try simp [ints, pwO, rows, hps]
 clear g4 g5 g6
 refine awp_seq ?_
 refine awp_seqR fun K hK => ?_
 simp (maxSteps := 2000000) (disch := omega) [ints, rows, scal, wr64, wr8, pwO]
 (repeat' first | apply hK | apply And.intro) <;> try first | omega | rfl | (simp <;> omega)
 refine awp_block ?_
 refine awp_loop (fun i : Nat => mkS [(0, .t 0 (rows tb)), (1, .t 2 (.int .i64 (x : Nat))), (6, .own 0 (k + 1)), (7, .t 2 (.int .i64 (pw T x (k + 1) : Nat))), (24, .t 2 (.int .i64 (k + 1 : Nat))), (25, .t 2 (.int .i64 (i : Nat)))] [(0, pwO T x k)] 1 41 [.any, .any]) (fun i => i ≤ k + 1 ∧ ∀ j, j < i → pw T x j ≠ pw T x (k + 1)) (fun i => k + 1 - i) ?_ ?_
 ·refine ⟨0, ⟨by omega, fun j h => by omega⟩, ?_⟩
  refine wk_list [(0, some 0)] rfl ?_ ?_ ?_ ?_
  all_goals try simp [ints, pwO, rows]
 rintro i ⟨hi, hne⟩
 refine awp_seqR fun K hK => ?_
 simp (maxSteps := 2000000) (disch := omega) [ints, rows, scal, wr64, wr8]
 (repeat' first | apply hK | apply And.intro) <;> try first | omega | rfl | (simp <;> omega)
 refine awp_seq ?_
 by_cases hik : i < k + 1
 ·have hik' : (i : Int) < (k : Int) + 1 := by omega
  refine awp_cond (b := true) (p := 2) (by simp [scal, hik'] <;> omega) ?_
  refine awp_skip ?_
  show awp _ _ _ _
  refine awp_seq ?_
  refine awp_block ?_
  refine awp_seqR fun K hK => ?_
  simp (maxSteps := 2000000) (disch := omega) [ints, rows, scal, wr64, wr8]
  (repeat' first | apply hK | apply And.intro) <;> try first | omega | rfl | (simp <;> omega)
  refine awp_seqR fun K hK => ?_
  simp (maxSteps := 2000000) (disch := omega) [ints, rows, scal, wr64, wr8, pwO, hik]
  (repeat' first | apply hK | apply And.intro) <;> try first | omega | rfl | (simp <;> omega)
  by_cases he : pw T x i = pw T x (k + 1)
  ·refine awp_cond (b := true) (p := 2) (by simp [scal, he] <;> omega) ?_
   refine awp_seqR fun K hK => ?_
   simp (maxSteps := 2000000) (disch := omega) [ints, rows, scal, wr64, wr8, pwO]
   (repeat' first | apply hK | apply And.intro) <;> try first | omega | rfl | (simp <;> omega)
   refine awp_ret ?_
   refine ⟨_, ⟨k, i, by omega, hkn, he, rfl⟩, ?_⟩
   refine ⟨⟨.inr rfl, _, [], rfl, trivial, trivial, by simp [pwO, pwT, tab_map, ints], ?_⟩, by simp [pwO, pwT, tab_map, ints]⟩
   simp [pwO, pwT, tab_map, ints]
  ·refine awp_cond (b := false) (p := 2) (by simp [scal, he] <;> omega) ?_
   refine awp_skip ?_
   show awp _ _ _ _
   refine awp_R fun K hK => ?_
   simp (maxSteps := 2000000) (disch := omega) [ints, rows, scal, wr64, wr8]
   (repeat' first | apply hK | apply And.intro) <;> try first | omega | rfl | (simp <;> omega)
   refine ⟨i + 1, ⟨by omega, fun j hj => ?_⟩, by omega, ?_⟩
   ·rcases Nat.lt_or_ge j i with h | h
    ·exact hne j h
    ·obtain rfl : j = i := by omega
     exact he
   refine wk_list [(0, some 0)] rfl ?_ ?_ ?_ ?_
   all_goals try simp [ints, pwO, rows]
 ·obtain rfl : i = k + 1 := by omega
  refine awp_cond (b := false) (p := 2) (by simp [scal] <;> omega) ?_
  refine awp_exit ?_
  show awp _ _ _ _
  refine awp_R fun K hK => ?_
  simp (maxSteps := 2000000) (disch := omega) [ints, rows, scal, wr64, wr8, pwO]
  (repeat' first | apply hK | apply And.intro) <;> try first | omega | rfl | (simp <;> omega)
  refine ⟨k + 1, fun i j h1 h2 => ?_, by omega, ?_⟩
  ·rcases Nat.lt_or_ge j (k + 1) with h | h
   ·exact hd i j h1 (by omega)
   ·obtain rfl : j = k + 1 := by omega
    exact hne i h1
  refine wk_list [(0, some 0)] rfl ?_ ?_ ?_ ?_
  all_goals try simp [ints, pwO, rows, pwO_snoc]
set_option maxRecDepth 100000 in
set_option maxHeartbeats 8000000 in
theorem rOmega_fn (tb : List (List Int)) (n : Nat) (T : Nat → Nat → Nat) (ht : TbL tb n T) (hA : Assoc n T) (hn : n ≤ 1000) (x : Nat) (hx : x < n) :
  FnA Tryz.prog 45 [.t 0 (rows tb), .t 2 (.int .i64 (x : Nat))] (.t 2 (.int .i64 (omT T n x : Nat))) := by
 obtain ⟨res, ⟨k, i0, hi0, hkn, hrep, rfl⟩, hP⟩ := powers_fn tb n T ht hn x hx
 obtain ⟨k0, hk0, hom, hid, hno⟩ := omT_spec ht.lt hA hx
 have hk0k : k0 ≤ k := by
  rcases Nat.lt_or_ge k k0 with h | h
  ·exfalso
   obtain ⟨d, rfl⟩ : ∃ d, k0 = (k + 1) + d := ⟨k0 - (k + 1), by omega⟩
   have e : pw T x ((k + 1) + d) = pw T x (i0 + d) := (pw_it x (k + 1) d).symm.trans (by rw [← hrep]; exact pw_it x i0 d)
   rw [e] at hid
   exact hno (i0 + d) (by omega) hid
  ·exact h
 refine fn_intro Tryz.func45 rfl (by simp [Tryz.f45]) ?_
 rw [show Tryz.f45.ntmps = 32 from rfl, show Tryz.f45.results = #[.tmp 4] from rfl]
 refine awp_seqR fun K hK => ?_
 simp (maxSteps := 2000000) (disch := omega) [ints, rows, scal, wr64, wr8]
 (repeat' first | apply hK | apply And.intro) <;> try first | omega | rfl | (simp <;> omega)
 refine awp_seqR fun K hK => ?_
 simp (maxSteps := 2000000) (disch := omega) [ints, rows, scal, wr64, wr8]
 (repeat' apply And.intro)
 all_goals (try omega)
 refine call_rule (caps := []) (hP) [] [] 2 rfl rfl rfl rfl (by kernel_rfl) (by simp) ?_ trivial trivial rfl trivial trivial (by simp) ?_
 ·simp [scal, rows, ints, rows, ints]
 simp (maxSteps := 2000000) (disch := omega) [ints, rows, scal, wr64, wr8]
 (repeat' first | apply hK | apply And.intro) <;> try first | omega | rfl | (simp <;> omega)
 refine awp_seq ?_
 refine awp_seqR fun K hK => ?_
 simp (maxSteps := 2000000) (disch := omega) [ints, rows, scal, wr64, wr8]
 (repeat' first | apply hK | apply And.intro) <;> try first | omega | rfl | (simp <;> omega)
 refine awp_block ?_
 refine awp_loop (fun j : Nat => mkS [(0, .t 0 (rows tb)), (15, .t 2 (ints (pwT T x k))), (16, .t 2 (.int .i64 (k + 1 : Nat))), (17, .t 2 (.int .i64 (j : Nat)))] [] 0 32 [.any, .any]) (fun j => j ≤ k0) (fun j => k0 - j) ?_ ?_
 ·refine ⟨0, by omega, ?_⟩
  refine wk_list [] rfl ?_ ?_ ?_ ?_
  all_goals try simp [ints, rows, ints, pwT]
 intro j hj
 have hpl := pw_lt ht.lt hx j
 obtain ⟨g1, g2, g3⟩ := ht.get hpl hpl
 have hjk : j < k + 1 := by omega
 have hjk' : (j : Int) < (k : Int) + 1 := by omega
 refine awp_seqR fun K hK => ?_
 simp (maxSteps := 2000000) (disch := omega) [ints, rows, scal, wr64, wr8]
 (repeat' first | apply hK | apply And.intro) <;> try first | omega | rfl | (simp <;> omega)
 refine awp_seq ?_
 refine awp_cond (b := true) (p := 2) (by simp [scal, hjk'] <;> omega) ?_
 refine awp_skip ?_
 show awp _ _ _ _
 refine awp_seq ?_
 refine awp_block ?_
 refine awp_seqR fun K hK => ?_
 simp (maxSteps := 2000000) (disch := omega) [ints, rows, scal, wr64, wr8, pwT, ints, hjk, tab_map]
 (repeat' first | apply hK | apply And.intro) <;> try first | omega | rfl | (simp <;> omega)
 refine awp_seqR fun K hK => ?_
 simp (maxSteps := 2000000) (disch := omega) [ints, rows, scal, wr64, wr8, rows, ints, g1, g2, g3]
 (repeat' first | apply hK | apply And.intro) <;> try first | omega | rfl | (simp <;> omega)
 by_cases he : T (pw T x j) (pw T x j) = pw T x j
 ·obtain rfl : j = k0 := by
   rcases Nat.lt_or_ge j k0 with h | h
   ·exact absurd he (hno j h)
   ·omega
  refine awp_cond (b := true) (p := 2) (by simp [scal, he] <;> omega) ?_
  refine awp_seqR fun K hK => ?_
  simp (maxSteps := 2000000) (disch := omega) [ints, rows, scal, wr64, wr8]
  (repeat' first | apply hK | apply And.intro) <;> try first | omega | rfl | (simp <;> omega)
  refine awp_ret ?_
  rw [hom]
  refine ⟨⟨.inr rfl, _, [], rfl, trivial, trivial, by simp, ?_⟩, by simp⟩
  simp
 ·have hlt : j < k0 := by
   rcases Nat.lt_or_ge j k0 with h | h
   ·exact h
   ·obtain rfl : j = k0 := by omega
    exact absurd hid he
  refine awp_cond (b := false) (p := 2) (by simp [scal, he] <;> omega) ?_
  refine awp_skip ?_
  show awp _ _ _ _
  refine awp_R fun K hK => ?_
  simp (maxSteps := 2000000) (disch := omega) [ints, rows, scal, wr64, wr8]
  (repeat' first | apply hK | apply And.intro) <;> try first | omega | rfl | (simp <;> omega)
  refine ⟨j + 1, by omega, by omega, ?_⟩
  refine wk_list [] rfl ?_ ?_ ?_ ?_
  all_goals try simp [ints, rows, ints, pwT, tab_map]
def inB (n : Nat) (l : List Int) : Bool := l.all fun x => decide (0 ≤ x) && decide (x < (n : Int))
theorem inB_t {n : Nat} {l : List Int} (h : ∀ i (h : i < l.length), 0 ≤ l[i] ∧ l[i] < (n : Int)) : inB n l = true := by
 unfold inB
 rw [List.all_eq_true]
 intro x hx
 obtain ⟨i, hi, rfl⟩ := List.getElem_of_mem hx
 have := h i hi
 simp [this.1, this.2]
theorem inB_f {n : Nat} {l : List Int} {i : Nat} (h : i < l.length) (hb : l[i] < 0 ∨ (n : Int) ≤ l[i]) : inB n l = false := by
 unfold inB
 rw [List.all_eq_false]
 refine ⟨l[i], List.getElem_mem h, ?_⟩
 rcases hb with hb | hb
 ·simp; omega
 ·simp; omega
theorem inB_inv {n : Nat} {l : List Int} (h : inB n l = true) : ∀ i (h : i < l.length), 0 ≤ l[i] ∧ l[i] < (n : Int) := by
 intro i hi
 unfold inB at h
 have := List.all_eq_true.1 h l[i] (List.getElem_mem hi)
 simpa using this
set_option maxRecDepth 100000 in
set_option maxHeartbeats 8000000 in
theorem rIn_fn (tb : List (List Int)) (l : List Int) (hl : l.length ≤ 1000000) (htl : tb.length ≤ 1000000) :
  FnA Tryz.prog 16 [.t 0 (rows tb), .t 0 (ints l)] (.t 2 (.bool (inB tb.length l))) := by
 refine fn_intro Tryz.func16 rfl (by simp [Tryz.f16]) ?_
 rw [show Tryz.f16.ntmps = 22 from rfl, show Tryz.f16.results = #[.tmp 4] from rfl]
 refine awp_seqR fun K hK => ?_
 simp (maxSteps := 2000000) (disch := omega) [ints, rows, scal, wr64, wr8]
 (repeat' first | apply hK | apply And.intro) <;> try first | omega | rfl | (simp <;> omega)
 refine awp_seq ?_
 refine awp_seqR fun K hK => ?_
 simp (maxSteps := 2000000) (disch := omega) [ints, rows, scal, wr64, wr8, ints]
 (repeat' first | apply hK | apply And.intro) <;> try first | omega | rfl | (simp <;> omega)
 refine awp_block ?_
 refine awp_loop (fun k : Nat => mkS [(0, .t 0 (rows tb)), (7, .t 0 (ints l)), (8, .t 2 (.int .i64 (l.length : Nat))), (9, .t 2 (.int .i64 (k : Nat)))] [] 0 22 [.any, .any]) (fun k => k ≤ l.length ∧ ∀ i (h : i < l.length), i < k → 0 ≤ l[i] ∧ l[i] < (tb.length : Int)) (fun k => l.length - k) ?_ ?_
 ·refine ⟨0, ⟨by omega, fun i h h2 => by omega⟩, ?_⟩
  refine wk_list [] rfl ?_ ?_ ?_ ?_
  all_goals try simp [ints, rows, ints]
 rintro k ⟨hk, hin⟩
 refine awp_seqR fun K hK => ?_
 simp (maxSteps := 2000000) (disch := omega) [ints, rows, scal, wr64, wr8]
 (repeat' first | apply hK | apply And.intro) <;> try first | omega | rfl | (simp <;> omega)
 refine awp_seq ?_
 by_cases hkl : k < l.length
 ·refine awp_cond (b := true) (p := 2) (by simp [scal, hkl] <;> omega) ?_
  refine awp_skip ?_
  show awp _ _ _ _
  refine awp_seq ?_
  refine awp_block ?_
  refine awp_seqR fun K hK => ?_
  simp (maxSteps := 2000000) (disch := omega) [ints, rows, scal, wr64, wr8, ints, hkl]
  (repeat' first | apply hK | apply And.intro) <;> try first | omega | rfl | (simp <;> omega)
  by_cases h1 : l[k] < 0
  ·refine awp_seqR fun K hK => ?_
   simp (maxSteps := 2000000) (disch := omega) [ints, rows, scal, wr64, wr8, h1]
   (repeat' first | apply hK | apply And.intro) <;> try first | omega | rfl | (simp <;> omega)
   refine awp_cond (b := true) (p := 2) (by simp [scal, h1] <;> omega) ?_
   refine awp_seqR fun K hK => ?_
   simp (maxSteps := 2000000) (disch := omega) [ints, rows, scal, wr64, wr8]
   (repeat' first | apply hK | apply And.intro) <;> try first | omega | rfl | (simp <;> omega)
   refine awp_ret ?_
   rw [inB_f hkl (.inl h1)]
   refine ⟨⟨.inr rfl, _, [], rfl, trivial, trivial, by simp, ?_⟩, by simp⟩
   simp
  ·refine awp_seqR fun K hK => ?_
   simp (maxSteps := 2000000) (disch := omega) [ints, rows, scal, wr64, wr8, h1, rows]
   (repeat' first | apply hK | apply And.intro) <;> try first | omega | rfl | (simp <;> omega)
   by_cases h2 : (tb.length : Int) ≤ l[k]
   ·refine awp_cond (b := true) (p := 2) (by simp [scal, h2] <;> omega) ?_
    refine awp_seqR fun K hK => ?_
    simp (maxSteps := 2000000) (disch := omega) [ints, rows, scal, wr64, wr8]
    (repeat' first | apply hK | apply And.intro) <;> try first | omega | rfl | (simp <;> omega)
    refine awp_ret ?_
    rw [inB_f hkl (.inr h2)]
    refine ⟨⟨.inr rfl, _, [], rfl, trivial, trivial, by simp, ?_⟩, by simp⟩
    simp
   ·refine awp_cond (b := false) (p := 2) (by simp [scal, h2] <;> omega) ?_
    refine awp_skip ?_
    show awp _ _ _ _
    refine awp_R fun K hK => ?_
    simp (maxSteps := 2000000) (disch := omega) [ints, rows, scal, wr64, wr8]
    (repeat' first | apply hK | apply And.intro) <;> try first | omega | rfl | (simp <;> omega)
    refine ⟨k + 1, ⟨by omega, fun i h h3 => ?_⟩, by omega, ?_⟩
    ·rcases Nat.lt_or_ge i k with h4 | h4
     ·exact hin i h h4
     ·obtain rfl : i = k := by omega
      omega
    refine wk_list [] rfl ?_ ?_ ?_ ?_
    all_goals try simp [ints, rows, ints]
 ·obtain rfl : k = l.length := by omega
  refine awp_cond (b := false) (p := 2) (by simp [scal] <;> omega) ?_
  refine awp_exit ?_
  show awp _ _ _ _
  refine awp_seqR fun K hK => ?_
  simp (maxSteps := 2000000) (disch := omega) [ints, rows, scal, wr64, wr8]
  (repeat' first | apply hK | apply And.intro) <;> try first | omega | rfl | (simp <;> omega)
  refine awp_ret ?_
  rw [inB_t fun i h => hin i h h]
  refine ⟨⟨.inr rfl, _, [], rfl, trivial, trivial, by simp, ?_⟩, by simp⟩
  simp
theorem idG_succ (T : Nat → Nat → Nat) (n f e : Nat) : idG T n (f + 1) e = if isId T n e = true then (e : Int) else idG T n f (e + 1) := rfl
set_option maxRecDepth 100000 in
set_option maxHeartbeats 8000000 in
theorem rIdentity_fn (tb : List (List Int)) (n : Nat) (T : Nat → Nat → Nat) (ht : TbL tb n T) (hn : n ≤ 1000) :
  FnA Tryz.prog 14 [.t 0 (rows tb)] (.t 2 (.int .i64 (idI T n))) := by
 have htl := ht.len
 refine fn_intro Tryz.func14 rfl (by simp [Tryz.f14]) ?_
 rw [show Tryz.f14.ntmps = 43 from rfl, show Tryz.f14.results = #[.tmp 2] from rfl]
 refine awp_seqR fun K hK => ?_
 simp (maxSteps := 2000000) (disch := omega) [ints, rows, scal, wr64, wr8]
 (repeat' first | apply hK | apply And.intro) <;> try first | omega | rfl | (simp <;> omega)
 refine awp_seq ?_
 refine awp_seqR fun K hK => ?_
 simp (maxSteps := 2000000) (disch := omega) [ints, rows, scal, wr64, wr8, rows]
 (repeat' first | apply hK | apply And.intro) <;> try first | omega | rfl | (simp <;> omega)
 refine awp_block ?_
 refine awp_loop (fun e : Nat => mkS [(0, .t 0 (rows tb)), (7, .t 2 (.int .i64 (n : Nat))), (8, .t 2 (.int .i64 (e : Nat)))] [] 0 43 [.any]) (fun e => e ≤ n ∧ idI T n = idG T n (n - e) e) (fun e => n - e) ?_ ?_
 ·refine ⟨0, ⟨by omega, rfl⟩, ?_⟩
  refine wk_list [] rfl ?_ ?_ ?_ ?_
  all_goals try simp [ints, rows, htl]
 rintro e ⟨he, hI⟩
 refine awp_seqR fun K hK => ?_
 simp (maxSteps := 2000000) (disch := omega) [ints, rows, scal, wr64, wr8]
 (repeat' first | apply hK | apply And.intro) <;> try first | omega | rfl | (simp <;> omega)
 refine awp_seq ?_
 by_cases hen : e < n
 ·rw [show n - e = (n - (e + 1)) + 1 by omega, idG_succ] at hI
  refine awp_cond (b := true) (p := 2) (by simp [scal, hen] <;> omega) ?_
  refine awp_skip ?_
  show awp _ _ _ _
  refine awp_seq ?_
  refine awp_block ?_
  refine awp_seqR fun K hK => ?_
  simp (maxSteps := 2000000) (disch := omega) [ints, rows, scal, wr64, wr8]
  (repeat' first | apply hK | apply And.intro) <;> try first | omega | rfl | (simp <;> omega)
  refine awp_seqR fun K hK => ?_
  simp (maxSteps := 2000000) (disch := omega) [ints, rows, scal, wr64, wr8]
  (repeat' first | apply hK | apply And.intro) <;> try first | omega | rfl | (simp <;> omega)
  refine awp_seq ?_
  refine awp_seqR fun K hK => ?_
  simp (maxSteps := 2000000) (disch := omega) [ints, rows, scal, wr64, wr8, rows]
  (repeat' first | apply hK | apply And.intro) <;> try first | omega | rfl | (simp <;> omega)
  refine awp_block ?_
  refine awp_loop (fun x : Nat => mkS [(0, .t 0 (rows tb)), (3, .t 2 (.int .i64 (e : Nat))), (4, .t 2 (.bool (isId T x e))), (7, .t 2 (.int .i64 (n : Nat))), (8, .t 2 (.int .i64 (e : Nat))), (12, .t 2 (.int .i64 (n : Nat))), (13, .t 2 (.int .i64 (x : Nat)))] [] 0 43 [.any]) (fun x => x ≤ n) (fun x => n - x) ?_ ?_
  ·refine ⟨0, by omega, ?_⟩
   refine wk_list [] rfl ?_ ?_ ?_ ?_
   all_goals try simp [ints, rows, htl, isId]
  intro x hx
  obtain ⟨c, hc⟩ : ∃ c, c = isId T x e := ⟨_, rfl⟩
  rw [← hc]
  refine awp_seqR fun K hK => ?_
  simp (maxSteps := 2000000) (disch := omega) [ints, rows, scal, wr64, wr8]
  (repeat' first | apply hK | apply And.intro) <;> try first | omega | rfl | (simp <;> omega)
  refine awp_seq ?_
  by_cases hxn : x < n
  ·have hnx := isId_succ T x e
   rw [← hc] at hnx
   obtain ⟨g1, g2, g3⟩ := ht.get hen hxn
   obtain ⟨g4, g5, g6⟩ := ht.get hxn hen
   refine awp_cond (b := true) (p := 2) (by simp [scal, hxn] <;> omega) ?_
   refine awp_skip ?_
   show awp _ _ _ _
   refine awp_seq ?_
   refine awp_block ?_
   refine awp_seqR fun K hK => ?_
   simp (maxSteps := 2000000) (disch := omega) [ints, rows, scal, wr64, wr8]
   (repeat' first | apply hK | apply And.intro) <;> try first | omega | rfl | (simp <;> omega)
   cases c with
   | false =>
    refine awp_R fun K hK => ?_
    simp (maxSteps := 2000000) (disch := omega) [ints, rows, scal, wr64, wr8]
    (repeat' first | apply hK | apply And.intro) <;> try first | omega | rfl | (simp <;> omega)
    show awp _ _ _ _
    refine awp_R fun K hK => ?_
    simp (maxSteps := 2000000) (disch := omega) [ints, rows, scal, wr64, wr8]
    (repeat' first | apply hK | apply And.intro) <;> try first | omega | rfl | (simp <;> omega)
    refine ⟨x + 1, by omega, by omega, ?_⟩
    refine wk_list [] rfl ?_ ?_ ?_ ?_
    all_goals try simp [ints, rows, hnx]
   | true =>
    by_cases h1 : T e x = x
    ·refine awp_R fun K hK => ?_
     simp (maxSteps := 2000000) (disch := omega) [ints, rows, scal, wr64, wr8, rows, ints, g1, g2, g3, h1, g4, g5, g6]
     (repeat' first | apply hK | apply And.intro) <;> try first | omega | rfl | (simp <;> omega)
     show awp _ _ _ _
     refine awp_R fun K hK => ?_
     simp (maxSteps := 2000000) (disch := omega) [ints, rows, scal, wr64, wr8]
     (repeat' first | apply hK | apply And.intro) <;> try first | omega | rfl | (simp <;> omega)
     refine ⟨x + 1, by omega, by omega, ?_⟩
     refine wk_list [] rfl ?_ ?_ ?_ ?_
     all_goals try simp [ints, rows, ints, hnx, h1]
     by_cases h2 : T x e = x <;> simp [h2]
     omega
    ·have h1' : ((T e x : Int) == (x : Int)) = false := by simp; omega
     refine awp_R fun K hK => ?_
     simp (maxSteps := 2000000) (disch := omega) [ints, rows, scal, wr64, wr8, rows, ints, g1, g2, g3, h1']
     (repeat' first | apply hK | apply And.intro) <;> try first | omega | rfl | (simp <;> omega)
     show awp _ _ _ _
     refine awp_R fun K hK => ?_
     simp (maxSteps := 2000000) (disch := omega) [ints, rows, scal, wr64, wr8]
     (repeat' first | apply hK | apply And.intro) <;> try first | omega | rfl | (simp <;> omega)
     refine ⟨x + 1, by omega, by omega, ?_⟩
     refine wk_list [] rfl ?_ ?_ ?_ ?_
     all_goals try simp [ints, rows, ints, hnx, h1]
  ·obtain rfl : x = n := by omega
   refine awp_cond (b := false) (p := 2) (by simp [scal] <;> omega) ?_
   refine awp_exit ?_
   show awp _ _ _ _
   cases c with
   | true =>
    rw [if_pos hc.symm] at hI
    refine awp_seqR fun K hK => ?_
    simp (maxSteps := 2000000) (disch := omega) [ints, rows, scal, wr64, wr8]
    (repeat' first | apply hK | apply And.intro) <;> try first | omega | rfl | (simp <;> omega)
    refine awp_cond (b := true) (p := 2) (by simp [scal] <;> omega) ?_
    refine awp_seqR fun K hK => ?_
    simp (maxSteps := 2000000) (disch := omega) [ints, rows, scal, wr64, wr8]
    (repeat' first | apply hK | apply And.intro) <;> try first | omega | rfl | (simp <;> omega)
    refine awp_ret ?_
    rw [hI]
    refine ⟨⟨.inr rfl, _, [], rfl, trivial, trivial, by simp, ?_⟩, by simp⟩
    simp
   | false =>
    rw [if_neg (by rw [← hc]; decide)] at hI
    refine awp_seqR fun K hK => ?_
    simp (maxSteps := 2000000) (disch := omega) [ints, rows, scal, wr64, wr8]
    (repeat' first | apply hK | apply And.intro) <;> try first | omega | rfl | (simp <;> omega)
    refine awp_cond (b := false) (p := 2) (by simp [scal] <;> omega) ?_
    refine awp_skip ?_
    show awp _ _ _ _
    refine awp_R fun K hK => ?_
    simp (maxSteps := 2000000) (disch := omega) [ints, rows, scal, wr64, wr8]
    (repeat' first | apply hK | apply And.intro) <;> try first | omega | rfl | (simp <;> omega)
    refine ⟨e + 1, ⟨by omega, hI⟩, by omega, ?_⟩
    refine wk_list [] rfl ?_ ?_ ?_ ?_
    all_goals try simp [ints, rows]
 ·obtain rfl : e = n := by omega
  refine awp_cond (b := false) (p := 2) (by simp [scal] <;> omega) ?_
  refine awp_exit ?_
  show awp _ _ _ _
  refine awp_seqR fun K hK => ?_
  simp (maxSteps := 2000000) (disch := omega) [ints, rows, scal, wr64, wr8]
  (repeat' first | apply hK | apply And.intro) <;> try first | omega | rfl | (simp <;> omega)
  refine awp_ret ?_
  rw [hI, Nat.sub_self]
  refine ⟨⟨.inr rfl, _, [], rfl, trivial, trivial, by simp [idG], ?_⟩, by simp [idG]⟩
  simp [idG]
end Go.Proofs.YtghnmmfkckneaaaGreat.M
