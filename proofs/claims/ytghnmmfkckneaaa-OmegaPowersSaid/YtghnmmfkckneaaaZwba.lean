/-
  Walk in my logic: visits of the nodes of a term (omega.visit) with a function value that has captured one or two variables.
  Walks in my logic: variables of terms, TermOne in terms (omega).
  Walks in my logic: validity and identity of tables (mult), Value (omega).
  Walks in my logic: Powers, Omega, In, Identity of the reference of layer 14.
  Walks in my logic: powers of an element (mult: areElements, has, power, IndexPeriod, Omega).
  Walks in my logic: IndexPeriod and Omega of a table (mult).
-/
import Derived.Test.YtghnmmfkckneaaaZwaz
import Derived.Test.YtghnmmfkckneaaaZwau
namespace Go.Proofs.Ytghnmmfkckneaaa.M
open Go.RowKit
set_option linter.unusedVariables false
set_option linter.unusedSimpArgs false

mutual
def Tm.vis {S : Type} (step : S → Int × Int → Int × Int → S) : S → Int × Int → Tm → S
  | s, a, .mk o n l => visL step (step s (o, n) a) (o, n) l
def visL {S : Type} (step : S → Int × Int → Int × Int → S) : S → Int × Int → List Tm → S
  | s, a, [] => s
  | s, a, t :: l => visL step (t.vis step s a) a l
end
theorem vis_eq {S : Type} (step : S → Int × Int → Int × Int → S) (s : S) (a : Int × Int) (t : Tm) : t.vis step s a = visL step (step s (t.op, t.n) a) (t.op, t.n) t.args := by
  obtain ⟨o, n, l⟩ := t
  rw [Tm.vis]
  rfl
theorem visL_app {S : Type} (step : S → Int × Int → Int × Int → S) : ∀ (l r : List Tm) (s : S) (a : Int × Int), visL step s a (l ++ r) = visL step (visL step s a l) a r
  | [], r, s, a => by rw [List.nil_append, visL]
  | t :: l, r, s, a => by rw [List.cons_append, visL, visL, visL_app step l r]
theorem take_vis {S : Type} (step : S → Int × Int → Int × Int → S) (s : S) (a : Int × Int) {l : List Tm} {k : Nat} (h : k < l.length) : visL step s a (l.take (k + 1)) = l[k].vis step (visL step s a (l.take k)) a := by
  rw [List.take_succ_eq_append_getElem h, visL_app, visL, visL]
def abV (a : Int × Int) : AV := .agg [.t 2 (.int .i64 a.1), .t 2 (.int .i64 a.2), .any]
def scC (l : List T) : List AV := l.map (.t 2)
@[simp] theorem scC_len (l : List T) : (scC l).length = l.length := by simp [scC]
def bxO (ty : Nat) (l : List T) : AObj := .box ty (scC l)
theorem scC_in {H : Nat → Option AObj} {pi : List Nat} {q : Nat} : ∀ {l : List T}, (∀ x ∈ l, scal x = true) → inPs H pi q (scC l) (scC l) = True
  | [], _ => rfl
  | x :: l, h => eq_true ⟨⟨rfl, .inl (h x (by simp))⟩, of_eq_true (scC_in (l := l) fun y hy => h y (by simp [hy]))⟩
theorem scC_out {po : List Nat} {q : Nat} : ∀ {l : List T}, (∀ x ∈ l, scal x = true) → outVs po q (scC l) = scC l
  | [], _ => rfl
  | x :: l, h => by
    show outV po q (.t 2 x) :: outVs po q (scC l) = .t 2 x :: scC l
    rw [scC_out (fun y hy => h y (by simp [hy]))]
    simp
theorem scC_wk {H : Nat → Option AObj} {m : Nat → Option Nat} {un : Nat → Prop} {nx : Nat} : ∀ (l : List T), wkPs H m un nx (scC l) (scC l) = True
  | [] => rfl
  | x :: l => eq_true ⟨⟨rfl, Nat.le_refl _⟩, of_eq_true (scC_wk l)⟩

set_option maxRecDepth 100000 in
set_option maxHeartbeats 16000000 in
theorem visit1_fn {S : Type} {L0 : S → List T} {ty0 c0 : Nat} {F : FuncId} (hF : bodied Try.prog F = true) (step : S → Int × Int → Int × Int → S) (hs0 : ∀ s, ∀ x ∈ L0 s, scal x = true) (hc0 : ∀ s, (L0 s).length = c0)
    (h : ∀ (s : S) (t : Tm) (a : Int × Int), t.ok = true → FnS Try.prog F [tmV 0 t, abV a, .ptr 0 0 c0] [bxO ty0 (L0 s)] (.tup []) [bxO ty0 (L0 (step s (t.op, t.n) a))]) :
    ∀ (t : Tm) (s : S) (a : Int × Int), t.ok = true → t.sz ≤ 1000 → FnK Try.prog 84 [tmV 0 t, abV a, .fn F [.ptr 0 0 c0]] [bxO ty0 (L0 s)] (.tup []) [bxO ty0 (L0 (t.vis step s a))] (List.range 1) := by
  have hi0 : ∀ (H : Nat → Option AObj) (pi : List Nat) (q : Nat) (s : S), inPs H pi q (scC (L0 s)) (scC (L0 s)) = True := fun H pi q s => scC_in (hs0 s)
  have ho0 : ∀ (po : List Nat) (q : Nat) (s : S), outVs po q (scC (L0 s)) = scC (L0 s) := fun po q s => scC_out (hs0 s)
  have hw0 : ∀ (H : Nat → Option AObj) (m : Nat → Option Nat) (un : Nat → Prop) (nx : Nat) (s : S), wkPs H m un nx (scC (L0 s)) (scC (L0 s)) = True := fun H m un nx s => scC_wk (L0 s)
  intro t
  induction hsz : t.sz using Nat.strongRecOn generalizing t with
  | _ q ih =>
  intro s a ho hq
  have hokl : okL' t.args = true := by rw [ok_eq, Bool.and_eq_true] at ho; exact ho.2
  have hF1 := h s t a ho
  have hsl := szL_ge t.args
  have hse := sz_eq t
  rw [vis_eq]
  refine fn_introKB 1 (fun _ => c0) (fun k hk => by
    obtain rfl : k = 0 := by omega
    exact ⟨_, _, rfl, by simp [hc0]⟩) (fun k hk => by
    obtain rfl : k = 0 := by omega
    exact ⟨_, _, rfl, by simp [hc0]⟩) Try.func84 rfl (by simp [Try.f84]) ?_
  rw [show Try.f84.ntmps = 24 from rfl, show Try.f84.results = #[] from rfl]
  generalize step s (t.op, t.n) a = s1 at hF1 ⊢
  refine awp_seqR (fun K hK => ?_)
  simp (maxSteps := 2000000) (disch := omega) [ints, rows, scal, wr64, wr8, tmV, abV]
  (repeat' first | refine hK _ ?_ | apply And.intro) <;> clear hK K <;> try first | omega | rfl | (simp <;> omega)
  refine awp_seqR (fun K hK => ?_)
  simp (maxSteps := 2000000) (disch := omega) [ints, rows, scal, wr64, wr8, tsTerm]
  (repeat' apply And.intro)
  all_goals (try omega)
  refine call_rule (caps := [.ptr 0 0 c0]) (hF1) [0] [0] 1 rfl rfl rfl (by simp) (by first | assumption | kernel_rfl) (by simp) ?_ ?_ (by simp) rfl (by simp) ⟨.inr ⟨rfl, 2, _, _, _, _, _, rfl, rfl, (by first | rfl | simp [tmV, abV, bxO, hi0, ho0, hw0, hc0]), rfl, (by first | rfl | simp [tmV, abV, bxO, hi0, ho0, hw0, hc0])⟩, trivial⟩ (by simp [tmV, abV, bxO, hi0, ho0, hw0, hc0]) ?_
  · simp [scal, rows, ints, tmV, abV, bxO, hi0, ho0, hw0, hc0]
  · simp [scal, rows, ints, tmV, abV, bxO, hi0, ho0, hw0, hc0]
  simp (maxSteps := 2000000) (disch := omega) [ints, rows, scal, wr64, wr8, bxO, hi0, ho0, hw0, hc0]
  (repeat' first | refine hK _ ?_ | apply And.intro) <;> clear hK K <;> try first | omega | rfl | (simp <;> omega)
  refine awp_seqR (fun K hK => ?_)
  simp (maxSteps := 2000000) (disch := omega) [ints, rows, scal, wr64, wr8]
  (repeat' first | refine hK _ ?_ | apply And.intro) <;> clear hK K <;> try first | omega | rfl | (simp <;> omega)
  refine awp_block ?_
  refine awp_loop (fun k : Nat => mkS [(2, .fn F [.ptr 0 0 c0]), (3, .ptr 1 0 3), (13, .t 0 (.sl 3 (cellsL t.args))), (14, .t 2 (.int .i64 t.args.length)), (15, .t 2 (.int .i64 k))] [(0, bxO ty0 (L0 (visL step s1 (t.op, t.n) (t.args.take k)))), (1, teO t)] 2 24 [.any, .any, .any, .ptr 0 0 c0]) (fun k => k ≤ t.args.length) (fun k => t.args.length - k) ?_ ?_
  · refine ⟨0, by omega, ?_⟩
    rw [show visL step s1 (t.op, t.n) (t.args.take 0) = s1 from by rw [List.take_zero, visL]]
    refine wk_list [(0, some 0), (1, some 1)] rfl ?_ ?_ ?_ ?_
    all_goals try simp [ints, teO, bxO, tmV, ghB, List.range_succ, hi0, ho0, hw0, hc0]
  intro k hk
  refine awp_seqR (fun K hK => ?_)
  simp (maxSteps := 2000000) (disch := omega) [ints, rows, scal, wr64, wr8]
  (repeat' first | refine hK _ ?_ | apply And.intro) <;> clear hK K <;> try first | omega | rfl | (simp <;> omega)
  refine awp_seq ?_
  by_cases hkl : k < t.args.length
  · obtain ⟨b, hb⟩ : ∃ b, b = t.args[k] := ⟨_, rfl⟩
    have hcut := cellsL_cut t.args k hkl
    rw [← hb, Tm.cells_eq] at hcut
    have ham : b ∈ t.args := by rw [hb]; exact List.getElem_mem hkl
    have hlt := sz_arg ham
    have htv := take_vis step s1 (t.op, t.n) hkl
    rw [← hb] at htv
    have hA := ih b.sz (by omega) b rfl (visL step s1 (t.op, t.n) (t.args.take k)) (t.op, t.n) (okL'_all.1 hokl b ham) (by omega)
    rw [← htv] at hA
    refine awp_cond (b := true) (p := 2) (by simp [scal, hkl] <;> omega) ?_
    refine awp_skip ?_
    show awp _ _ _ _
    refine awp_seq ?_
    refine awp_block ?_
    refine awp_seqR (fun K hK => ?_)
    simp (maxSteps := 2000000) (disch := omega) [ints, rows, scal, wr64, wr8, hcut, hkl, teO]
    (repeat' first | refine hK _ ?_ | apply And.intro) <;> clear hK K <;> try first | omega | rfl | (simp <;> omega)
    refine awp_R (fun K hK => ?_)
    simp (maxSteps := 2000000) (disch := omega) [ints, rows, scal, wr64, wr8, teO]
    (repeat' apply And.intro)
    all_goals (try omega)
    refine call_ruleK (caps := []) (hA) [0] [0] 1 rfl rfl rfl rfl (by kernel_rfl) (by simp) ?_ ?_ (by simp) rfl (by simp) ⟨.inr (.inr ⟨rfl, by simp, by simp⟩), trivial⟩ (by simp [tmV, abV, bxO, teO, hi0, ho0, hw0, hc0]) ?_
    · simp [scal, rows, ints, tmV, abV, bxO, teO, hi0, ho0, hw0, hc0]
    · simp [scal, rows, ints, tmV, abV, bxO, teO, hi0, ho0, hw0, hc0]
    simp (maxSteps := 2000000) (disch := omega) [ints, rows, scal, wr64, wr8, teO, bxO, hi0, ho0, hw0, hc0]
    (repeat' first | refine hK _ ?_ | apply And.intro) <;> clear hK K <;> try first | omega | rfl | (simp <;> omega)
    show awp _ _ _ _
    refine awp_R (fun K hK => ?_)
    simp (maxSteps := 2000000) (disch := omega) [ints, rows, scal, wr64, wr8]
    (repeat' first | refine hK _ ?_ | apply And.intro) <;> clear hK K <;> try first | omega | rfl | (simp <;> omega)
    refine ⟨k + 1, by omega, by omega, ?_⟩
    refine wk_list [(0, some 0), (1, some 1)] rfl ?_ ?_ ?_ ?_
    all_goals try simp [ints, teO, bxO, hi0, ho0, hw0, hc0]
  · obtain rfl : k = t.args.length := by omega
    rw [List.take_length]
    refine awp_cond (b := false) (p := 2) (by simp [scal] <;> omega) ?_
    refine awp_exit ?_
    refine ⟨⟨.inl rfl, _, [(0, some 0)], rfl, ?_, ?_, ?_, ?_⟩, ?_⟩
    all_goals simp [bxO, ghB, List.range_succ, tmV, abV, hi0, ho0, hw0, hc0]


set_option maxRecDepth 100000 in
set_option maxHeartbeats 16000000 in
theorem visit2_fn {S : Type} {L0 : S → List T} {L1 : S → List T} {ty0 c0 : Nat} {ty1 c1 : Nat} {F : FuncId} (hF : bodied Try.prog F = true) (step : S → Int × Int → Int × Int → S) (hs0 : ∀ s, ∀ x ∈ L0 s, scal x = true) (hc0 : ∀ s, (L0 s).length = c0) (hs1 : ∀ s, ∀ x ∈ L1 s, scal x = true) (hc1 : ∀ s, (L1 s).length = c1)
    (h : ∀ (s : S) (t : Tm) (a : Int × Int), t.ok = true → FnS Try.prog F [tmV 0 t, abV a, .ptr 0 0 c0, .ptr 1 0 c1] [bxO ty0 (L0 s), bxO ty1 (L1 s)] (.tup []) [bxO ty0 (L0 (step s (t.op, t.n) a)), bxO ty1 (L1 (step s (t.op, t.n) a))]) :
    ∀ (t : Tm) (s : S) (a : Int × Int), t.ok = true → t.sz ≤ 1000 → FnK Try.prog 84 [tmV 0 t, abV a, .fn F [.ptr 0 0 c0, .ptr 1 0 c1]] [bxO ty0 (L0 s), bxO ty1 (L1 s)] (.tup []) [bxO ty0 (L0 (t.vis step s a)), bxO ty1 (L1 (t.vis step s a))] (List.range 2) := by
  have hi0 : ∀ (H : Nat → Option AObj) (pi : List Nat) (q : Nat) (s : S), inPs H pi q (scC (L0 s)) (scC (L0 s)) = True := fun H pi q s => scC_in (hs0 s)
  have ho0 : ∀ (po : List Nat) (q : Nat) (s : S), outVs po q (scC (L0 s)) = scC (L0 s) := fun po q s => scC_out (hs0 s)
  have hw0 : ∀ (H : Nat → Option AObj) (m : Nat → Option Nat) (un : Nat → Prop) (nx : Nat) (s : S), wkPs H m un nx (scC (L0 s)) (scC (L0 s)) = True := fun H m un nx s => scC_wk (L0 s)
  have hi1 : ∀ (H : Nat → Option AObj) (pi : List Nat) (q : Nat) (s : S), inPs H pi q (scC (L1 s)) (scC (L1 s)) = True := fun H pi q s => scC_in (hs1 s)
  have ho1 : ∀ (po : List Nat) (q : Nat) (s : S), outVs po q (scC (L1 s)) = scC (L1 s) := fun po q s => scC_out (hs1 s)
  have hw1 : ∀ (H : Nat → Option AObj) (m : Nat → Option Nat) (un : Nat → Prop) (nx : Nat) (s : S), wkPs H m un nx (scC (L1 s)) (scC (L1 s)) = True := fun H m un nx s => scC_wk (L1 s)
  intro t
  induction hsz : t.sz using Nat.strongRecOn generalizing t with
  | _ q ih =>
  intro s a ho hq
  have hokl : okL' t.args = true := by rw [ok_eq, Bool.and_eq_true] at ho; exact ho.2
  have hF1 := h s t a ho
  have hsl := szL_ge t.args
  have hse := sz_eq t
  rw [vis_eq]
  refine fn_introKB 2 (fun k => if k = 0 then c0 else c1) (fun k hk => by
    rcases (by omega : k = 0 ∨ k = 1) with rfl | rfl
    · exact ⟨_, _, rfl, by simp [hc0]⟩
    · exact ⟨_, _, rfl, by simp [hc1]⟩) (fun k hk => by
    rcases (by omega : k = 0 ∨ k = 1) with rfl | rfl
    · exact ⟨_, _, rfl, by simp [hc0]⟩
    · exact ⟨_, _, rfl, by simp [hc1]⟩) Try.func84 rfl (by simp [Try.f84]) ?_
  rw [show Try.f84.ntmps = 24 from rfl, show Try.f84.results = #[] from rfl]
  generalize step s (t.op, t.n) a = s1 at hF1 ⊢
  refine awp_seqR (fun K hK => ?_)
  simp (maxSteps := 2000000) (disch := omega) [ints, rows, scal, wr64, wr8, tmV, abV]
  (repeat' first | refine hK _ ?_ | apply And.intro) <;> clear hK K <;> try first | omega | rfl | (simp <;> omega)
  refine awp_seqR (fun K hK => ?_)
  simp (maxSteps := 2000000) (disch := omega) [ints, rows, scal, wr64, wr8, tsTerm]
  (repeat' apply And.intro)
  all_goals (try omega)
  refine call_rule (caps := [.ptr 0 0 c0, .ptr 1 0 c1]) (hF1) [0, 1] [0, 1] 1 rfl rfl rfl (by simp) (by first | assumption | kernel_rfl) (by simp) ?_ ?_ (by simp) rfl (by simp) ⟨.inr ⟨rfl, 2, _, _, _, _, _, rfl, rfl, (by first | rfl | simp [tmV, abV, bxO, hi0, ho0, hw0, hc0, hi1, ho1, hw1, hc1]), rfl, (by first | rfl | simp [tmV, abV, bxO, hi0, ho0, hw0, hc0, hi1, ho1, hw1, hc1])⟩, .inr ⟨rfl, 3, _, _, _, _, _, rfl, rfl, (by first | rfl | simp [tmV, abV, bxO, hi0, ho0, hw0, hc0, hi1, ho1, hw1, hc1]), rfl, (by first | rfl | simp [tmV, abV, bxO, hi0, ho0, hw0, hc0, hi1, ho1, hw1, hc1])⟩, trivial⟩ (by simp [tmV, abV, bxO, hi0, ho0, hw0, hc0, hi1, ho1, hw1, hc1]) ?_
  · simp [scal, rows, ints, tmV, abV, bxO, hi0, ho0, hw0, hc0, hi1, ho1, hw1, hc1]
  · simp [scal, rows, ints, tmV, abV, bxO, hi0, ho0, hw0, hc0, hi1, ho1, hw1, hc1]
  simp (maxSteps := 2000000) (disch := omega) [ints, rows, scal, wr64, wr8, bxO, hi0, ho0, hw0, hc0, hi1, ho1, hw1, hc1]
  (repeat' first | refine hK _ ?_ | apply And.intro) <;> clear hK K <;> try first | omega | rfl | (simp <;> omega)
  refine awp_seqR (fun K hK => ?_)
  simp (maxSteps := 2000000) (disch := omega) [ints, rows, scal, wr64, wr8]
  (repeat' first | refine hK _ ?_ | apply And.intro) <;> clear hK K <;> try first | omega | rfl | (simp <;> omega)
  refine awp_block ?_
  refine awp_loop (fun k : Nat => mkS [(2, .fn F [.ptr 0 0 c0, .ptr 1 0 c1]), (3, .ptr 2 0 3), (13, .t 0 (.sl 3 (cellsL t.args))), (14, .t 2 (.int .i64 t.args.length)), (15, .t 2 (.int .i64 k))] [(0, bxO ty0 (L0 (visL step s1 (t.op, t.n) (t.args.take k)))), (1, bxO ty1 (L1 (visL step s1 (t.op, t.n) (t.args.take k)))), (2, teO t)] 3 24 [.any, .any, .any, .ptr 0 0 c0, .ptr 1 0 c1]) (fun k => k ≤ t.args.length) (fun k => t.args.length - k) ?_ ?_
  · refine ⟨0, by omega, ?_⟩
    rw [show visL step s1 (t.op, t.n) (t.args.take 0) = s1 from by rw [List.take_zero, visL]]
    refine wk_list [(0, some 0), (1, some 1), (2, some 2)] rfl ?_ ?_ ?_ ?_
    all_goals try simp [ints, teO, bxO, tmV, ghB, List.range_succ, hi0, ho0, hw0, hc0, hi1, ho1, hw1, hc1]
  intro k hk
  refine awp_seqR (fun K hK => ?_)
  simp (maxSteps := 2000000) (disch := omega) [ints, rows, scal, wr64, wr8]
  (repeat' first | refine hK _ ?_ | apply And.intro) <;> clear hK K <;> try first | omega | rfl | (simp <;> omega)
  refine awp_seq ?_
  by_cases hkl : k < t.args.length
  · obtain ⟨b, hb⟩ : ∃ b, b = t.args[k] := ⟨_, rfl⟩
    have hcut := cellsL_cut t.args k hkl
    rw [← hb, Tm.cells_eq] at hcut
    have ham : b ∈ t.args := by rw [hb]; exact List.getElem_mem hkl
    have hlt := sz_arg ham
    have htv := take_vis step s1 (t.op, t.n) hkl
    rw [← hb] at htv
    have hA := ih b.sz (by omega) b rfl (visL step s1 (t.op, t.n) (t.args.take k)) (t.op, t.n) (okL'_all.1 hokl b ham) (by omega)
    rw [← htv] at hA
    refine awp_cond (b := true) (p := 2) (by simp [scal, hkl] <;> omega) ?_
    refine awp_skip ?_
    show awp _ _ _ _
    refine awp_seq ?_
    refine awp_block ?_
    refine awp_seqR (fun K hK => ?_)
    simp (maxSteps := 2000000) (disch := omega) [ints, rows, scal, wr64, wr8, hcut, hkl, teO]
    (repeat' first | refine hK _ ?_ | apply And.intro) <;> clear hK K <;> try first | omega | rfl | (simp <;> omega)
    refine awp_R (fun K hK => ?_)
    simp (maxSteps := 2000000) (disch := omega) [ints, rows, scal, wr64, wr8, teO]
    (repeat' apply And.intro)
    all_goals (try omega)
    refine call_ruleK (caps := []) (hA) [0, 1] [0, 1] 1 rfl rfl rfl rfl (by kernel_rfl) (by simp) ?_ ?_ (by simp) rfl (by simp) ⟨.inr (.inr ⟨rfl, by simp, by simp⟩), .inr (.inr ⟨rfl, by simp, by simp⟩), trivial⟩ (by simp [tmV, abV, bxO, teO, hi0, ho0, hw0, hc0, hi1, ho1, hw1, hc1]) ?_
    · simp [scal, rows, ints, tmV, abV, bxO, teO, hi0, ho0, hw0, hc0, hi1, ho1, hw1, hc1]
    · simp [scal, rows, ints, tmV, abV, bxO, teO, hi0, ho0, hw0, hc0, hi1, ho1, hw1, hc1]
    simp (maxSteps := 2000000) (disch := omega) [ints, rows, scal, wr64, wr8, teO, bxO, hi0, ho0, hw0, hc0, hi1, ho1, hw1, hc1]
    (repeat' first | refine hK _ ?_ | apply And.intro) <;> clear hK K <;> try first | omega | rfl | (simp <;> omega)
    show awp _ _ _ _
    refine awp_R (fun K hK => ?_)
    simp (maxSteps := 2000000) (disch := omega) [ints, rows, scal, wr64, wr8]
    (repeat' first | refine hK _ ?_ | apply And.intro) <;> clear hK K <;> try first | omega | rfl | (simp <;> omega)
    refine ⟨k + 1, by omega, by omega, ?_⟩
    refine wk_list [(0, some 0), (1, some 1), (2, some 2)] rfl ?_ ?_ ?_ ?_
    all_goals try simp [ints, teO, bxO, hi0, ho0, hw0, hc0, hi1, ho1, hw1, hc1]
  · obtain rfl : k = t.args.length := by omega
    rw [List.take_length]
    refine awp_cond (b := false) (p := 2) (by simp [scal] <;> omega) ?_
    refine awp_exit ?_
    refine ⟨⟨.inl rfl, _, [(0, some 0), (1, some 1)], rfl, ?_, ?_, ?_, ?_⟩, ?_⟩
    all_goals simp [bxO, ghB, List.range_succ, tmV, abV, hi0, ho0, hw0, hc0, hi1, ho1, hw1, hc1]

end Go.Proofs.Ytghnmmfkckneaaa.M

namespace Go.Proofs.Ytghnmmfkckneaaa.M
open Go.RowKit
set_option linter.unusedVariables false
set_option linter.unusedSimpArgs false

def vaS (s : Int) (h a : Int × Int) : Int := if h.1 = 2 then (if s < h.2 + 1 then h.2 + 1 else s) else s
def hoS (s : Bool) (h a : Int × Int) : Bool := s || decide (h.1 = 1)
mutual
theorem vis_va : ∀ (t : Tm) (s : Int) (a : Int × Int), t.ok = true → 0 ≤ s → t.vis vaS s a = max s (t.gr : Int)
  | .mk o n l, s, a, hok, hs => by
    obtain ⟨hwf, hl⟩ := ok_wf hok
    rw [Tm.vis, Tm.gr]
    have h1 : vaS s (o, n) a = max s ((if o = 2 then n.toNat + 1 else 0 : Nat) : Int) := by
      unfold vaS
      by_cases h : o = 2
      · rw [if_pos h, if_pos h]; simp only; split <;> omega
      · rw [if_neg h, if_neg h]; omega
    rw [h1, visL_va l _ _ hl (by omega)]
    omega
theorem visL_va : ∀ (l : List Tm) (s : Int) (a : Int × Int), okL' l = true → 0 ≤ s → visL vaS s a l = max s (grL l : Int)
  | [], s, a, _, hs => by rw [visL, grL]; omega
  | t :: l, s, a, hok, hs => by
    have hok2 : t.ok = true ∧ okL' l = true := by simpa [okL'] using hok
    rw [visL, grL, vis_va t s a hok2.1 hs, visL_va l _ a hok2.2 (by omega)]
    omega
end
mutual
theorem vis_ho : ∀ (t : Tm) (s : Bool) (a : Int × Int), t.vis hoS s a = (s || t.has1)
  | .mk o n l, s, a => by
    rw [Tm.vis, Tm.has1, visL_ho l]
    unfold hoS
    rw [Bool.or_assoc]
theorem visL_ho : ∀ (l : List Tm) (s : Bool) (a : Int × Int), visL hoS s a l = (s || has1L l)
  | [], s, a => by rw [visL, has1L, Bool.or_false]
  | t :: l, s, a => by rw [visL, has1L, vis_ho t s a, visL_ho l, Bool.or_assoc]
end
theorem grL_take {l : List Tm} {k : Nat} (h : k < l.length) : grL (l.take (k + 1)) = max (grL (l.take k)) l[k].gr := by
  have : ∀ l r : List Tm, grL (l ++ r) = max (grL l) (grL r) := fun l r => by
    induction l with
    | nil => rw [List.nil_append, grL]; omega
    | cons a l ih => rw [List.cons_append, grL, grL, ih]; omega
  rw [List.take_succ_eq_append_getElem h, this, grL, grL]
  omega
theorem has1L_take {l : List Tm} {k : Nat} (h : k < l.length) : has1L (l.take (k + 1)) = (has1L (l.take k) || l[k].has1) := by
  have : ∀ l r : List Tm, has1L (l ++ r) = (has1L l || has1L r) := fun l r => by
    induction l with
    | nil => rw [List.nil_append, has1L, Bool.false_or]
    | cons a l ih => rw [List.cons_append, has1L, has1L, ih, Bool.or_assoc]
  rw [List.take_succ_eq_append_getElem h, this, has1L, has1L, Bool.or_false]
def inL (s : Int) : List T := [.int .i64 s]
def boL (s : Bool) : List T := [.bool s]
theorem tsInt (h : 3 < Try.prog.types.size) : (Try.prog.types[3]'h).size = 1 := by rfl
theorem tsBool (h : 4 < Try.prog.types.size) : (Try.prog.types[4]'h).size = 1 := by rfl
set_option maxRecDepth 100000 in
set_option maxHeartbeats 8000000 in
theorem vars1_fn (s : Int) (t : Tm) (a : Int × Int) (ho : t.ok = true) : FnS Try.prog 85 [tmV 0 t, abV a, .ptr 0 0 1] [bxO 3 (inL s)] (.tup []) [bxO 3 (inL (vaS s (t.op, t.n) a))] := by
  have hwf : t.wf = true := by rw [ok_eq, Bool.and_eq_true] at ho; exact ho.1
  unfold Tm.wf at hwf
  rw [decide_eq_true_iff] at hwf
  refine fn_intro Try.func85 rfl (by simp [Try.f85]) ?_
  rw [show Try.f85.ntmps = 13 from rfl, show Try.f85.results = #[] from rfl]
  refine awp_seqR (fun K hK => ?_)
  simp (maxSteps := 2000000) (disch := omega) [ints, rows, scal, wr64, wr8, tmV, abV, bxO, scC, inL]
  (repeat' first | refine hK _ ?_ | apply And.intro) <;> clear hK K <;> try first | omega | rfl | (simp <;> omega)
  refine awp_seqR (fun K hK => ?_)
  simp (maxSteps := 2000000) (disch := omega) [ints, rows, scal, wr64, wr8, tsTerm, bxO, scC, inL]
  (repeat' first | refine hK _ ?_ | apply And.intro) <;> clear hK K <;> try first | omega | rfl | (simp <;> omega)
  by_cases e : t.op = 2
  · have hr : vaS s (t.op, t.n) a = if s < t.n + 1 then t.n + 1 else s := by unfold vaS; rw [if_pos e]
    refine awp_cond (b := true) (p := 2) (by simp [scal, e] <;> omega) ?_
    refine awp_R (fun K hK => ?_)
    simp (maxSteps := 2000000) (disch := omega) [ints, rows, scal, wr64, wr8, bxO, scC, inL]
    (repeat' first | refine hK _ ?_ | apply And.intro) <;> clear hK K <;> try first | omega | rfl | (simp <;> omega)
    refine ⟨_, [(0, some 0)], (by first | rfl | (simp [ints, rows, scal, tmV, abV, bxO, scC, inL, hr]; rfl)), ?_, ?_, ?_, ?_⟩
    all_goals try simp [ints, rows, scal, tmV, abV, bxO, scC, inL, hr]
  · have hr : vaS s (t.op, t.n) a = s := by unfold vaS; rw [if_neg e]
    refine awp_cond (b := false) (p := 2) (by simp [scal, e] <;> omega) ?_
    refine awp_skip ?_
    refine ⟨⟨.inl rfl, _, [(0, some 0)], rfl, ?_, ?_, ?_, ?_⟩, ?_⟩
    all_goals simp [tmV, abV, bxO, scC, inL, hr]
set_option maxRecDepth 100000 in
set_option maxHeartbeats 8000000 in
theorem hasOne1_fn (s : Bool) (t : Tm) (a : Int × Int) (ho : t.ok = true) : FnS Try.prog 90 [tmV 0 t, abV a, .ptr 0 0 1] [bxO 4 (boL s)] (.tup []) [bxO 4 (boL (hoS s (t.op, t.n) a))] := by
  refine fn_intro Try.func90 rfl (by simp [Try.f90]) ?_
  rw [show Try.f90.ntmps = 11 from rfl, show Try.f90.results = #[] from rfl]
  refine awp_seqR (fun K hK => ?_)
  simp (maxSteps := 2000000) (disch := omega) [ints, rows, scal, wr64, wr8, tmV, abV, bxO, scC, boL]
  (repeat' first | refine hK _ ?_ | apply And.intro) <;> clear hK K <;> try first | omega | rfl | (simp <;> omega)
  cases s with
  | true =>
    refine awp_R (fun K hK => ?_)
    simp (maxSteps := 2000000) (disch := omega) [ints, rows, scal, wr64, wr8, tsTerm, bxO, scC, boL]
    (repeat' first | refine hK _ ?_ | apply And.intro) <;> clear hK K <;> try first | omega | rfl | (simp <;> omega)
    refine ⟨_, [(0, some 0)], (by first | rfl | (simp [ints, rows, scal, tmV, abV, bxO, scC, boL, hoS]; rfl)), ?_, ?_, ?_, ?_⟩
    all_goals try simp [ints, rows, scal, tmV, abV, bxO, scC, boL, hoS]
  | false =>
    refine awp_R (fun K hK => ?_)
    simp (maxSteps := 2000000) (disch := omega) [ints, rows, scal, wr64, wr8, tsTerm, bxO, scC, boL]
    (repeat' first | refine hK _ ?_ | apply And.intro) <;> clear hK K <;> try first | omega | rfl | (simp <;> omega)
    refine ⟨_, [(0, some 0)], (by first | rfl | (simp [ints, rows, scal, tmV, abV, bxO, scC, boL, hoS]; rfl)), ?_, ?_, ?_, ?_⟩
    all_goals try simp [ints, rows, scal, tmV, abV, bxO, scC, boL, hoS]
    all_goals (by_cases h : t.op = 1 <;> simp [h])
set_option maxRecDepth 100000 in
set_option maxHeartbeats 8000000 in
theorem vars_fn (ts : List Tm) (hts : ts.length ≤ 1000) (hok : ∀ t ∈ ts, t.ok = true ∧ t.sz ≤ 1000) : FnA Try.prog 51 [.t 0 (.sl 3 (cellsL ts))] (.t 2 (.int .i64 (grL ts : Nat))) := by
  refine fn_intro Try.func51 rfl (by simp [Try.f51]) ?_
  rw [show Try.f51.ntmps = 18 from rfl, show Try.f51.results = #[.tmp 2] from rfl]
  refine awp_seqR (fun K hK => ?_)
  simp (maxSteps := 2000000) (disch := omega) [ints, rows, scal, wr64, wr8]
  (repeat' first | refine hK _ ?_ | apply And.intro) <;> clear hK K <;> try first | omega | rfl | (simp <;> omega)
  refine awp_seqR (fun K hK => ?_)
  simp (maxSteps := 2000000) (disch := omega) [ints, rows, scal, wr64, wr8, tsInt]
  (repeat' first | refine hK _ ?_ | apply And.intro) <;> clear hK K <;> try first | omega | rfl | (simp <;> omega)
  refine awp_seq ?_
  refine awp_seqR (fun K hK => ?_)
  simp (maxSteps := 2000000) (disch := omega) [ints, rows, scal, wr64, wr8]
  (repeat' first | refine hK _ ?_ | apply And.intro) <;> clear hK K <;> try first | omega | rfl | (simp <;> omega)
  refine awp_block ?_
  refine awp_loop (fun k : Nat => mkS [(3, .ptr 0 0 1), (6, .t 0 (.sl 3 (cellsL ts))), (7, .t 2 (.int .i64 ts.length)), (8, .t 2 (.int .i64 k))] [(0, bxO 3 (inL (grL (ts.take k) : Nat)))] 1 18 [.any]) (fun k => k ≤ ts.length) (fun k => ts.length - k) ?_ ?_
  · refine ⟨0, by omega, ?_⟩
    refine wk_list [(0, some 1000000)] rfl ?_ ?_ ?_ ?_
    all_goals try simp [ints, bxO, scC, inL, grL, tsInt]
  intro k hk
  refine awp_seqR (fun K hK => ?_)
  simp (maxSteps := 2000000) (disch := omega) [ints, rows, scal, wr64, wr8]
  (repeat' first | refine hK _ ?_ | apply And.intro) <;> clear hK K <;> try first | omega | rfl | (simp <;> omega)
  refine awp_seq ?_
  by_cases hkl : k < ts.length
  · obtain ⟨b, hb⟩ : ∃ b, b = ts[k] := ⟨_, rfl⟩
    have hcut := cellsL_cut ts k hkl
    have hgt := grL_take hkl
    rw [← hb] at hcut hgt
    rw [Tm.cells_eq] at hcut
    obtain ⟨hbo, hbs⟩ := hok b (by rw [hb]; exact List.getElem_mem hkl)
    have hV := visit1_fn (S := Int) (L0 := inL) (ty0 := 3) (c0 := 1) (F := 85) (by kernel_rfl) vaS (fun s x hx => by simp [inL] at hx; subst hx; rfl) (fun s => rfl) vars1_fn b (grL (ts.take k) : Nat) (0, 0) hbo hbs
    rw [vis_va b _ _ hbo (by omega), show max ((grL (ts.take k) : Nat) : Int) (b.gr : Int) = ((grL (ts.take (k + 1)) : Nat) : Int) by rw [hgt]; omega] at hV
    refine awp_cond (b := true) (p := 2) (by simp [scal, hkl] <;> omega) ?_
    refine awp_skip ?_
    show awp _ _ _ _
    refine awp_seq ?_
    refine awp_block ?_
    refine awp_seqR (fun K hK => ?_)
    simp (maxSteps := 2000000) (disch := omega) [ints, rows, scal, wr64, wr8, hcut, hkl]
    (repeat' first | refine hK _ ?_ | apply And.intro) <;> clear hK K <;> try first | omega | rfl | (simp <;> omega)
    refine awp_R (fun K hK => ?_)
    simp (maxSteps := 2000000) (disch := omega) [ints, rows, scal, wr64, wr8, tsTerm]
    (repeat' apply And.intro)
    all_goals (try omega)
    refine call_ruleK (caps := []) (hV) [0] [0] 1 rfl rfl rfl rfl (by kernel_rfl) (by simp) ?_ ?_ (by simp) rfl (by simp) ⟨.inr (.inr ⟨rfl, by simp, by simp⟩), trivial⟩ (by simp [tmV, abV, bxO, scC, inL]) ?_
    · simp [scal, rows, ints, tmV, abV, bxO, scC, inL]
    · simp [scal, rows, ints, tmV, abV, bxO, scC, inL]
    simp (maxSteps := 2000000) (disch := omega) [ints, rows, scal, wr64, wr8, bxO, scC, inL]
    (repeat' first | refine hK _ ?_ | apply And.intro) <;> clear hK K <;> try first | omega | rfl | (simp <;> omega)
    show awp _ _ _ _
    refine awp_R (fun K hK => ?_)
    simp (maxSteps := 2000000) (disch := omega) [ints, rows, scal, wr64, wr8]
    (repeat' first | refine hK _ ?_ | apply And.intro) <;> clear hK K <;> try first | omega | rfl | (simp <;> omega)
    refine ⟨k + 1, by omega, by omega, ?_⟩
    refine wk_list [(0, some 0)] rfl ?_ ?_ ?_ ?_
    all_goals try simp [ints, bxO, scC, inL]
  · obtain rfl : k = ts.length := by omega
    rw [List.take_length]
    refine awp_cond (b := false) (p := 2) (by simp [scal] <;> omega) ?_
    refine awp_exit ?_
    show awp _ _ _ _
    refine awp_seqR (fun K hK => ?_)
    simp (maxSteps := 2000000) (disch := omega) [ints, rows, scal, wr64, wr8, bxO, scC, inL]
    (repeat' first | refine hK _ ?_ | apply And.intro) <;> clear hK K <;> try first | omega | rfl | (simp <;> omega)
    refine awp_ret ?_
    refine ⟨⟨.inr rfl, _, [], rfl, trivial, trivial, by simp, ?_⟩, by simp⟩
    simp
set_option maxRecDepth 100000 in
set_option maxHeartbeats 8000000 in
theorem hasOne_fn (ts : List Tm) (hts : ts.length ≤ 1000) (hok : ∀ t ∈ ts, t.ok = true ∧ t.sz ≤ 1000) : FnA Try.prog 53 [.t 0 (.sl 3 (cellsL ts))] (.t 2 (.bool (has1L ts))) := by
  refine fn_intro Try.func53 rfl (by simp [Try.f53]) ?_
  rw [show Try.f53.ntmps = 18 from rfl, show Try.f53.results = #[.tmp 2] from rfl]
  refine awp_seqR (fun K hK => ?_)
  simp (maxSteps := 2000000) (disch := omega) [ints, rows, scal, wr64, wr8]
  (repeat' first | refine hK _ ?_ | apply And.intro) <;> clear hK K <;> try first | omega | rfl | (simp <;> omega)
  refine awp_seqR (fun K hK => ?_)
  simp (maxSteps := 2000000) (disch := omega) [ints, rows, scal, wr64, wr8, tsBool]
  (repeat' first | refine hK _ ?_ | apply And.intro) <;> clear hK K <;> try first | omega | rfl | (simp <;> omega)
  refine awp_seq ?_
  refine awp_seqR (fun K hK => ?_)
  simp (maxSteps := 2000000) (disch := omega) [ints, rows, scal, wr64, wr8]
  (repeat' first | refine hK _ ?_ | apply And.intro) <;> clear hK K <;> try first | omega | rfl | (simp <;> omega)
  refine awp_block ?_
  refine awp_loop (fun k : Nat => mkS [(3, .ptr 0 0 1), (6, .t 0 (.sl 3 (cellsL ts))), (7, .t 2 (.int .i64 ts.length)), (8, .t 2 (.int .i64 k))] [(0, bxO 4 (boL (has1L (ts.take k))))] 1 18 [.any]) (fun k => k ≤ ts.length) (fun k => ts.length - k) ?_ ?_
  · refine ⟨0, by omega, ?_⟩
    refine wk_list [(0, some 1000000)] rfl ?_ ?_ ?_ ?_
    all_goals try simp [ints, bxO, scC, boL, has1L, tsBool]
  intro k hk
  refine awp_seqR (fun K hK => ?_)
  simp (maxSteps := 2000000) (disch := omega) [ints, rows, scal, wr64, wr8]
  (repeat' first | refine hK _ ?_ | apply And.intro) <;> clear hK K <;> try first | omega | rfl | (simp <;> omega)
  refine awp_seq ?_
  by_cases hkl : k < ts.length
  · obtain ⟨b, hb⟩ : ∃ b, b = ts[k] := ⟨_, rfl⟩
    have hcut := cellsL_cut ts k hkl
    have hgt := has1L_take hkl
    rw [← hb] at hcut hgt
    rw [Tm.cells_eq] at hcut
    obtain ⟨hbo, hbs⟩ := hok b (by rw [hb]; exact List.getElem_mem hkl)
    have hV := visit1_fn (S := Bool) (L0 := boL) (ty0 := 4) (c0 := 1) (F := 90) (by kernel_rfl) hoS (fun s x hx => by simp [boL] at hx; subst hx; rfl) (fun s => rfl) hasOne1_fn b (has1L (ts.take k)) (0, 0) hbo hbs
    rw [vis_ho b, ← hgt] at hV
    refine awp_cond (b := true) (p := 2) (by simp [scal, hkl] <;> omega) ?_
    refine awp_skip ?_
    show awp _ _ _ _
    refine awp_seq ?_
    refine awp_block ?_
    refine awp_seqR (fun K hK => ?_)
    simp (maxSteps := 2000000) (disch := omega) [ints, rows, scal, wr64, wr8, hcut, hkl]
    (repeat' first | refine hK _ ?_ | apply And.intro) <;> clear hK K <;> try first | omega | rfl | (simp <;> omega)
    refine awp_R (fun K hK => ?_)
    simp (maxSteps := 2000000) (disch := omega) [ints, rows, scal, wr64, wr8, tsTerm]
    (repeat' apply And.intro)
    all_goals (try omega)
    refine call_ruleK (caps := []) (hV) [0] [0] 1 rfl rfl rfl rfl (by kernel_rfl) (by simp) ?_ ?_ (by simp) rfl (by simp) ⟨.inr (.inr ⟨rfl, by simp, by simp⟩), trivial⟩ (by simp [tmV, abV, bxO, scC, boL]) ?_
    · simp [scal, rows, ints, tmV, abV, bxO, scC, boL]
    · simp [scal, rows, ints, tmV, abV, bxO, scC, boL]
    simp (maxSteps := 2000000) (disch := omega) [ints, rows, scal, wr64, wr8, bxO, scC, boL]
    (repeat' first | refine hK _ ?_ | apply And.intro) <;> clear hK K <;> try first | omega | rfl | (simp <;> omega)
    show awp _ _ _ _
    refine awp_R (fun K hK => ?_)
    simp (maxSteps := 2000000) (disch := omega) [ints, rows, scal, wr64, wr8]
    (repeat' first | refine hK _ ?_ | apply And.intro) <;> clear hK K <;> try first | omega | rfl | (simp <;> omega)
    refine ⟨k + 1, by omega, by omega, ?_⟩
    refine wk_list [(0, some 0)] rfl ?_ ?_ ?_ ?_
    all_goals try simp [ints, bxO, scC, boL]
  · obtain rfl : k = ts.length := by omega
    rw [List.take_length]
    refine awp_cond (b := false) (p := 2) (by simp [scal] <;> omega) ?_
    refine awp_exit ?_
    show awp _ _ _ _
    refine awp_seqR (fun K hK => ?_)
    simp (maxSteps := 2000000) (disch := omega) [ints, rows, scal, wr64, wr8, bxO, scC, boL]
    (repeat' first | refine hK _ ?_ | apply And.intro) <;> clear hK K <;> try first | omega | rfl | (simp <;> omega)
    refine awp_ret ?_
    refine ⟨⟨.inr rfl, _, [], rfl, trivial, trivial, by simp, ?_⟩, by simp⟩
    simp
theorem vId_0 {a b : Tm} (h : a.val = true ∧ b.val = true) : vId a b = 0 := by unfold vId vTm; rw [if_pos h.1, if_pos h.2]
theorem vId_1 {a b : Tm} (h : ¬ (a.val = true ∧ b.val = true)) : vId a b = 21 := by
  unfold vId vTm
  by_cases h1 : a.val = true
  · rw [if_pos h1, if_neg (fun h2 => h ⟨h1, h2⟩)]
  · rw [if_neg h1]
theorem range_6 : List.range 6 = [0, 1, 2, 3, 4, 5] := rfl
theorem pair_ok {a b : Tm} (h : a.val = true ∧ b.val = true) : ∀ t ∈ [a, b], t.ok = true ∧ t.sz ≤ 1000 := fun t ht => by
  simp at ht
  rcases ht with rfl | rfl
  · have := val_ok h.1; exact ⟨this.1, by omega⟩
  · have := val_ok h.2; exact ⟨this.1, by omega⟩
theorem cells2 (a b : Tm) : cellsL [a, b] = [.int .i64 a.op, .int .i64 a.n, .sl 3 (cellsL a.args), .int .i64 b.op, .int .i64 b.n, .sl 3 (cellsL b.args)] := by
  show a.cells ++ (b.cells ++ []) = _
  rw [Tm.cells_eq, Tm.cells_eq]
  rfl
theorem cells1 (a : Tm) : cellsL [a] = [.int .i64 a.op, .int .i64 a.n, .sl 3 (cellsL a.args)] := by
  show a.cells ++ [] = _
  rw [Tm.cells_eq]
  rfl
end Go.Proofs.Ytghnmmfkckneaaa.M

namespace Go.Proofs.Ytghnmmfkckneaaa.M
open Go.RowKit
set_option linter.unusedVariables false
set_option linter.unusedSimpArgs false

theorem mulVal_fn (t : List (List Int)) : FnA Try.prog 50 [.t 0 (rows t)] (.t 2 (.int .i64 (vErr t))) := by
  intro w V ob vs hm hn hv
  have g0 := (hv 0 _ rfl).rep
  rw [vs1 hn]
  refine (validate_any w _ t (rep_rows mem_cell g0)).mono ?_
  rintro e w' ⟨rfl, hbel⟩
  exact ⟨_, ob, rfl, hm.after hbel, .mkInt _ _ _ _, gh_any (by simp)⟩
def isId (T : Nat → Nat → Nat) (k e : Nat) : Bool := (List.range k).all fun x => decide (T e x = x) && decide (T x e = x)
theorem isId_succ (T : Nat → Nat → Nat) (k e : Nat) : isId T (k + 1) e = (isId T k e && (decide (T e k = k) && decide (T k e = k))) := by
  unfold isId
  rw [List.range_succ, List.all_append]
  simp
theorem isId_le {T : Nat → Nat → Nat} {e : Nat} : ∀ {k n : Nat}, k ≤ n → isId T k e = false → isId T n e = false := fun {k n} h hf => by
  obtain ⟨d, rfl⟩ : ∃ d, n = k + d := ⟨n - k, by omega⟩
  clear h
  induction d with
  | zero => exact hf
  | succ d ih => rw [show k + (d + 1) = (k + d) + 1 by omega, isId_succ, ih]; rfl
def idG (T : Nat → Nat → Nat) (n : Nat) : Nat → Nat → Int
  | 0, e => -1
  | f + 1, e => if isId T n e = true then (e : Int) else idG T n f (e + 1)
def idI (T : Nat → Nat → Nat) (n : Nat) : Int := idG T n n 0
set_option maxRecDepth 100000 in
set_option maxHeartbeats 8000000 in
theorem mulId1_fn (tb : List (List Int)) (n : Nat) (T : Nat → Nat → Nat) (ht : TbL tb n T) (hn : n ≤ 1000) (e : Nat) (he : e < n) :
    FnS Try.prog 89 [.t 2 (.int .i64 (e : Nat)), .ptr 0 0 1] [.box 47 [.t 1 (rows tb)]] (.t 2 (.bool (isId T n e))) [.box 47 [.t 1 (rows tb)]] := by
  have htl := ht.len
  refine fn_intro Try.func89 rfl (by simp [Try.f89]) ?_
  rw [show Try.f89.ntmps = 31 from rfl, show Try.f89.results = #[.tmp 3] from rfl]
  refine awp_seqR (fun K hK => ?_)
  simp (maxSteps := 2000000) (disch := omega) [ints, rows, scal, wr64, wr8]
  (repeat' first | refine hK _ ?_ | apply And.intro) <;> clear hK K <;> try first | omega | rfl | (simp <;> omega)
  refine awp_seq ?_
  refine awp_seqR (fun K hK => ?_)
  simp (maxSteps := 2000000) (disch := omega) [ints, rows, scal, wr64, wr8, rows]
  (repeat' first | refine hK _ ?_ | apply And.intro) <;> clear hK K <;> try first | omega | rfl | (simp <;> omega)
  refine awp_block ?_
  refine awp_loop (fun k : Nat => mkS [(0, .t 2 (.int .i64 (e : Nat))), (1, .ptr 0 0 1), (6, .t 2 (.int .i64 (n : Nat))), (7, .t 2 (.int .i64 (k : Nat)))] [(0, .box 47 [.t 1 (rows tb)])] 1 31 [.any, .ptr 0 0 1]) (fun k => k ≤ n ∧ isId T k e = true) (fun k => n - k) ?_ ?_
  · refine ⟨0, ⟨by omega, rfl⟩, ?_⟩
    refine wk_list [(0, some 0)] rfl ?_ ?_ ?_ ?_
    all_goals try simp [ints, rows, htl]
  rintro k ⟨hk, hid⟩
  refine awp_seqR (fun K hK => ?_)
  simp (maxSteps := 2000000) (disch := omega) [ints, rows, scal, wr64, wr8]
  (repeat' first | refine hK _ ?_ | apply And.intro) <;> clear hK K <;> try first | omega | rfl | (simp <;> omega)
  refine awp_seq ?_
  by_cases hkn : k < n
  · obtain ⟨g1, g2, g3⟩ := ht.get he hkn
    obtain ⟨g4, g5, g6⟩ := ht.get hkn he
    have hs := isId_succ T k e
    rw [hid, Bool.true_and] at hs
    refine awp_cond (b := true) (p := 2) (by simp [scal, hkn] <;> omega) ?_
    refine awp_skip ?_
    show awp _ _ _ _
    refine awp_seq ?_
    refine awp_block ?_
    refine awp_seqR (fun K hK => ?_)
    simp (maxSteps := 2000000) (disch := omega) [ints, rows, scal, wr64, wr8]
    (repeat' first | refine hK _ ?_ | apply And.intro) <;> clear hK K <;> try first | omega | rfl | (simp <;> omega)
    by_cases e1 : T e k = k
    · by_cases e2 : T k e = k
      · have hgo : isId T (k + 1) e = true := by rw [hs]; simp [e1, e2]
        have e1' : ((T e k : Nat) : Int) = (k : Int) := by rw [e1]
        have e2' : ((T k e : Nat) : Int) = (k : Int) := by rw [e2]
        refine awp_seqR (fun K hK => ?_)
        simp (maxSteps := 2000000) (disch := omega) [ints, rows, scal, wr64, wr8, rows, ints, g1, g2, g3, g4, g5, g6, e1, e2]
        (repeat' first | refine hK _ ?_ | apply And.intro) <;> clear hK K <;> try first | omega | rfl | (simp <;> omega)
        refine awp_cond (b := false) (p := 2) (by simp [scal, e1, e2] <;> omega) ?_
        refine awp_skip ?_
        show awp _ _ _ _
        refine awp_R (fun K hK => ?_)
        simp (maxSteps := 2000000) (disch := omega) [ints, rows, scal, wr64, wr8]
        (repeat' first | refine hK _ ?_ | apply And.intro) <;> clear hK K <;> try first | omega | rfl | (simp <;> omega)
        refine ⟨k + 1, ⟨by omega, hgo⟩, by omega, ?_⟩
        refine wk_list [(0, some 0)] rfl ?_ ?_ ?_ ?_
        all_goals try simp [ints, rows]
      · have hno : isId T n e = false := isId_le (k := k + 1) (by omega) (by rw [hs]; simp [e2])
        refine awp_seqR (fun K hK => ?_)
        simp (maxSteps := 2000000) (disch := omega) [ints, rows, scal, wr64, wr8, rows, ints, g1, g2, g3, g4, g5, g6, e1, e2]
        (repeat' first | refine hK _ ?_ | apply And.intro) <;> clear hK K <;> try first | omega | rfl | (simp <;> omega)
        refine awp_cond (b := true) (p := 2) (by simp [scal, e1, e2] <;> omega) ?_
        refine awp_seqR (fun K hK => ?_)
        simp (maxSteps := 2000000) (disch := omega) [ints, rows, scal, wr64, wr8]
        (repeat' first | refine hK _ ?_ | apply And.intro) <;> clear hK K <;> try first | omega | rfl | (simp <;> omega)
        refine awp_ret ?_
        refine ⟨⟨.inr rfl, _, [(0, some 0)], (by first | rfl | (simp [ints, rows, scal, hno]; rfl)), ?_, ?_, ?_, ?_⟩, ?_⟩
        all_goals try simp [ints, rows, scal, hno]
    · have hno : isId T n e = false := isId_le (k := k + 1) (by omega) (by rw [hs]; simp [e1])
      have e1b : (((T e k : Nat) : Int) != (k : Int)) = true := by simp; omega
      refine awp_seqR (fun K hK => ?_)
      simp (maxSteps := 2000000) (disch := omega) [ints, rows, scal, wr64, wr8, rows, ints, g1, g2, g3, g4, g5, g6, e1, e1b]
      (repeat' first | refine hK _ ?_ | apply And.intro) <;> clear hK K <;> try first | omega | rfl | (simp <;> omega)
      refine awp_cond (b := true) (p := 2) (by simp [scal, e1] <;> omega) ?_
      refine awp_seqR (fun K hK => ?_)
      simp (maxSteps := 2000000) (disch := omega) [ints, rows, scal, wr64, wr8]
      (repeat' first | refine hK _ ?_ | apply And.intro) <;> clear hK K <;> try first | omega | rfl | (simp <;> omega)
      refine awp_ret ?_
      refine ⟨⟨.inr rfl, _, [(0, some 0)], (by first | rfl | (simp [ints, rows, scal, hno]; rfl)), ?_, ?_, ?_, ?_⟩, ?_⟩
      all_goals try simp [ints, rows, scal, hno]
  · obtain rfl : k = n := by omega
    refine awp_cond (b := false) (p := 2) (by simp [scal] <;> omega) ?_
    refine awp_exit ?_
    show awp _ _ _ _
    refine awp_seqR (fun K hK => ?_)
    simp (maxSteps := 2000000) (disch := omega) [ints, rows, scal, wr64, wr8]
    (repeat' first | refine hK _ ?_ | apply And.intro) <;> clear hK K <;> try first | omega | rfl | (simp <;> omega)
    refine awp_ret ?_
    refine ⟨⟨.inr rfl, _, [(0, some 0)], (by first | rfl | (simp [ints, rows, scal, hid]; rfl)), ?_, ?_, ?_, ?_⟩, ?_⟩
    all_goals try simp [ints, rows, scal, hid]
set_option maxRecDepth 100000 in
set_option maxHeartbeats 8000000 in
theorem mulIdx_fn (tb : List (List Int)) (n : Nat) (T : Nat → Nat → Nat) (ht : TbL tb n T) (hn : n ≤ 1000) :
    FnS Try.prog 87 [.t 0 (ints (tab n fun i => (i : Int))), .fn 89 [.ptr 0 0 1]] [.box 47 [.t 1 (rows tb)]] (.t 2 (.int .i64 (idI T n))) [.box 47 [.t 1 (rows tb)]] := by
  refine fn_intro Try.func87 rfl (by simp [Try.f87]) ?_
  rw [show Try.f87.ntmps = 19 from rfl, show Try.f87.results = #[.tmp 4] from rfl]
  refine awp_seqR (fun K hK => ?_)
  simp (maxSteps := 2000000) (disch := omega) [ints, rows, scal, wr64, wr8]
  (repeat' first | refine hK _ ?_ | apply And.intro) <;> clear hK K <;> try first | omega | rfl | (simp <;> omega)
  refine awp_seq ?_
  refine awp_seqR (fun K hK => ?_)
  simp (maxSteps := 2000000) (disch := omega) [ints, rows, scal, wr64, wr8, ints]
  (repeat' first | refine hK _ ?_ | apply And.intro) <;> clear hK K <;> try first | omega | rfl | (simp <;> omega)
  refine awp_block ?_
  refine awp_loop (fun k : Nat => mkS [(0, .t 0 (ints (tab n fun i => (i : Int)))), (1, .fn 89 [.ptr 0 0 1]), (7, .t 2 (.int .i64 (n : Nat))), (8, .t 2 (.int .i64 (k : Nat)))] [(0, .box 47 [.t 1 (rows tb)])] 1 19 [.any, .any]) (fun k => k ≤ n ∧ idI T n = idG T n (n - k) k) (fun k => n - k) ?_ ?_
  · refine ⟨0, ⟨by omega, rfl⟩, ?_⟩
    refine wk_list [(0, some 0)] rfl ?_ ?_ ?_ ?_
    all_goals try simp [ints, ints, rows]
  rintro k ⟨hk, hid⟩
  refine awp_seqR (fun K hK => ?_)
  simp (maxSteps := 2000000) (disch := omega) [ints, rows, scal, wr64, wr8]
  (repeat' first | refine hK _ ?_ | apply And.intro) <;> clear hK K <;> try first | omega | rfl | (simp <;> omega)
  refine awp_seq ?_
  by_cases hkn : k < n
  · have h1 := mulId1_fn tb n T ht hn k hkn
    rw [show n - k = (n - (k + 1)) + 1 by omega, idG] at hid
    refine awp_cond (b := true) (p := 2) (by simp [scal, hkn] <;> omega) ?_
    refine awp_skip ?_
    show awp _ _ _ _
    refine awp_seq ?_
    refine awp_block ?_
    refine awp_seqR (fun K hK => ?_)
    simp (maxSteps := 2000000) (disch := omega) [ints, rows, scal, wr64, wr8]
    (repeat' first | refine hK _ ?_ | apply And.intro) <;> clear hK K <;> try first | omega | rfl | (simp <;> omega)
    refine awp_seqR (fun K hK => ?_)
    simp (maxSteps := 2000000) (disch := omega) [ints, rows, scal, wr64, wr8, ints, hkn]
    (repeat' apply And.intro)
    all_goals (try omega)
    refine call_rule (caps := [.ptr 0 0 1]) (h1) [0] [0] 1 rfl rfl rfl (by simp) (by first | assumption | kernel_rfl) (by simp) ?_ ?_ (by simp) rfl (by simp) ⟨.inr ⟨rfl, 1, _, _, _, _, _, rfl, rfl, (by first | rfl | simp), rfl, (by first | rfl | simp)⟩, trivial⟩ (by simp) ?_
    · simp [scal, rows, ints]
    · simp [scal, rows, ints]
    simp (maxSteps := 2000000) (disch := omega) [ints, rows, scal, wr64, wr8, rows]
    (repeat' first | refine hK _ ?_ | apply And.intro) <;> clear hK K <;> try first | omega | rfl | (simp <;> omega)
    by_cases e : isId T n k = true
    · rw [if_pos e] at hid
      refine awp_cond (b := true) (p := 2) (by simp [scal, e] <;> omega) ?_
      refine awp_seqR (fun K hK => ?_)
      simp (maxSteps := 2000000) (disch := omega) [ints, rows, scal, wr64, wr8]
      (repeat' first | refine hK _ ?_ | apply And.intro) <;> clear hK K <;> try first | omega | rfl | (simp <;> omega)
      refine awp_ret ?_
      refine ⟨⟨.inr rfl, _, [(0, some 0)], (by first | rfl | (simp [ints, rows, scal, hid]; rfl)), ?_, ?_, ?_, ?_⟩, ?_⟩
      all_goals try simp [ints, rows, scal, hid]
    · rw [if_neg e] at hid
      refine awp_cond (b := false) (p := 2) (by simp [scal, e] <;> omega) ?_
      refine awp_skip ?_
      show awp _ _ _ _
      refine awp_R (fun K hK => ?_)
      simp (maxSteps := 2000000) (disch := omega) [ints, rows, scal, wr64, wr8]
      (repeat' first | refine hK _ ?_ | apply And.intro) <;> clear hK K <;> try first | omega | rfl | (simp <;> omega)
      refine ⟨k + 1, ⟨by omega, hid⟩, by omega, ?_⟩
      refine wk_list [(0, some 0)] rfl ?_ ?_ ?_ ?_
      all_goals try simp [ints, rows]
  · obtain rfl : k = n := by omega
    rw [Nat.sub_self] at hid
    have hid : idI T k = -1 := hid
    refine awp_cond (b := false) (p := 2) (by simp [scal] <;> omega) ?_
    refine awp_exit ?_
    show awp _ _ _ _
    refine awp_seqR (fun K hK => ?_)
    simp (maxSteps := 2000000) (disch := omega) [ints, rows, scal, wr64, wr8]
    (repeat' first | refine hK _ ?_ | apply And.intro) <;> clear hK K <;> try first | omega | rfl | (simp <;> omega)
    refine awp_ret ?_
    refine ⟨⟨.inr rfl, _, [(0, some 0)], (by first | rfl | (simp [ints, rows, scal, hid]; rfl)), ?_, ?_, ?_, ?_⟩, ?_⟩
    all_goals try simp [ints, rows, scal, hid]
set_option maxRecDepth 100000 in
set_option maxHeartbeats 4000000 in
theorem mulElems_fn (tb : List (List Int)) (hn : tb.length ≤ 1000000) : FnA Try.prog 88 [.t 0 (rows tb)] (.t 2 (ints (tab tb.length fun i => (i : Int)))) := by
  refine fn_intro Try.func88 rfl (by simp [Try.f88]) ?_
  rw [show Try.f88.ntmps = 19 from rfl, show Try.f88.results = #[.tmp 2] from rfl]
  refine awp_seqR (fun K hK => ?_)
  simp (maxSteps := 2000000) (disch := omega) [ints, rows, scal, wr64, wr8]
  (repeat' first | refine hK _ ?_ | apply And.intro) <;> clear hK K <;> try first | omega | rfl | (simp <;> omega)
  refine awp_seqR (fun K hK => ?_)
  simp (maxSteps := 2000000) (disch := omega) [ints, rows, scal, wr64, wr8, rows]
  (repeat' first | refine hK _ ?_ | apply And.intro) <;> clear hK K <;> try first | omega | rfl | (simp <;> omega)
  refine awp_seq ?_
  refine awp_seqR (fun K hK => ?_)
  simp (maxSteps := 2000000) (disch := omega) [ints, rows, scal, wr64, wr8]
  (repeat' first | refine hK _ ?_ | apply And.intro) <;> clear hK K <;> try first | omega | rfl | (simp <;> omega)
  refine awp_block ?_
  refine awp_loop (fun k : Nat => mkS [(3, .own 0 tb.length), (9, .t 2 (.int .i64 tb.length)), (10, .t 2 (.int .i64 k))] [(0, .row 3 1 2 (tab tb.length fun i => .int .i64 (if i < k then (i : Int) else 0)))] 1 19 [.any]) (fun k => k ≤ tb.length) (fun k => tb.length - k) ?_ ?_
  · refine ⟨0, by omega, ?_⟩
    refine wk_list [(0, some 3000000)] rfl ?_ ?_ ?_ ?_
    all_goals try simp [ints, rep_tab]
  · intro k hk
    refine awp_seqR (fun K hK => ?_)
    simp (maxSteps := 2000000) (disch := omega) [ints, rows, scal, wr64, wr8]
    (repeat' first | refine hK _ ?_ | apply And.intro) <;> clear hK K <;> try first | omega | rfl | (simp <;> omega)
    by_cases hlt : k < tb.length
    · refine awp_seq ?_
      refine awp_cond (b := true) (p := 2) (by simp [scal, hlt] <;> omega) ?_
      refine awp_skip ?_
      refine awp_seq ?_
      refine awp_block ?_
      refine awp_seqR (fun K hK => ?_)
      simp (maxSteps := 2000000) (disch := omega) [ints, rows, scal, wr64, wr8]
      (repeat' first | refine hK _ ?_ | apply And.intro) <;> clear hK K <;> try first | omega | rfl | (simp <;> omega)
      refine awp_R (fun K hK => ?_)
      simp (maxSteps := 2000000) (disch := omega) [ints, rows, scal, wr64, wr8, hlt]
      (repeat' first | refine hK _ ?_ | apply And.intro) <;> clear hK K <;> try first | omega | rfl | (simp <;> omega)
      show awp _ _ _ _
      refine awp_R (fun K hK => ?_)
      simp (maxSteps := 2000000) (disch := omega) [ints, rows, scal, wr64, wr8]
      (repeat' first | refine hK _ ?_ | apply And.intro) <;> clear hK K <;> try first | omega | rfl | (simp <;> omega)
      refine ⟨k + 1, by omega, by omega, ?_⟩
      refine wk_list [(0, some 0)] rfl ?_ ?_ ?_ ?_
      all_goals try simp [ints]
      rw [tab_set]
      refine tab_congr (fun i hi => ?_)
      by_cases e : i = k
      · simp [e]
      · rw [if_neg e]
        by_cases e2 : i < k
        · rw [if_pos e2, if_pos (by omega)]
        · rw [if_neg e2, if_neg (by omega)]
    · refine awp_seq ?_
      refine awp_cond (b := false) (p := 2) (by simp [scal, hlt] <;> omega) ?_
      refine awp_exit ?_
      show awp _ _ _ _
      refine awp_seqR (fun K hK => ?_)
      simp (maxSteps := 2000000) (disch := omega) [ints, rows, scal, wr64, wr8]
      (repeat' first | refine hK _ ?_ | apply And.intro) <;> clear hK K <;> try first | omega | rfl | (simp <;> omega)
      refine awp_ret ?_
      refine ⟨⟨.inr rfl, _, [], rfl, trivial, trivial, by simp [ints], ?_⟩, by simp [ints]⟩
      simp [ints]
      rw [tab_map]
      refine tab_congr (fun i hi => ?_)
      rw [if_pos (by omega)]
set_option maxRecDepth 100000 in
set_option maxHeartbeats 4000000 in
theorem mulValid_fn (tb : List (List Int)) (v1 : vErr tb = 0) : FnA Try.prog 86 [.t 0 (rows tb)] (.t 2 (.bool true)) := by
  have h1 := mulVal_fn tb
  rw [v1] at h1
  refine fn_intro Try.func86 rfl (by simp [Try.f86]) ?_
  rw [show Try.f86.ntmps = 6 from rfl, show Try.f86.results = #[.tmp 2] from rfl]
  refine awp_seqR (fun K hK => ?_)
  simp (maxSteps := 2000000) (disch := omega) [ints, rows, scal, wr64, wr8]
  (repeat' first | refine hK _ ?_ | apply And.intro) <;> clear hK K <;> try first | omega | rfl | (simp <;> omega)
  refine awp_seqR (fun K hK => ?_)
  simp (maxSteps := 2000000) (disch := omega) [ints, rows, scal, wr64, wr8]
  (repeat' apply And.intro)
  all_goals (try omega)
  refine call_rule (caps := []) (h1) [] [] 2 rfl rfl rfl rfl (by kernel_rfl) (by simp) ?_ trivial trivial rfl trivial trivial (by simp) ?_
  · simp [scal, rows, ints]
  simp (maxSteps := 2000000) (disch := omega) [ints, rows, scal, wr64, wr8]
  (repeat' first | refine hK _ ?_ | apply And.intro) <;> clear hK K <;> try first | omega | rfl | (simp <;> omega)
  refine awp_ret ?_
  refine ⟨⟨.inr rfl, _, [], rfl, trivial, trivial, by simp, ?_⟩, by simp⟩
  simp
set_option maxRecDepth 100000 in
set_option maxHeartbeats 4000000 in
theorem mulId_fn (tb : List (List Int)) (v1 : vErr tb = 0) : FnA Try.prog 52 [.t 0 (rows tb)] (.t 2 (.int .i64 (idI (tabOf tb) tb.length))) := by
  obtain ⟨hl0, hl4⟩ := vErr_len v1
  have h1 := mulValid_fn tb v1
  have h2 := mulElems_fn tb (by omega)
  have h3 := mulIdx_fn tb tb.length (tabOf tb) (TbL.of v1) (by omega)
  refine fn_intro Try.func52 rfl (by simp [Try.f52]) ?_
  rw [show Try.f52.ntmps = 10 from rfl, show Try.f52.results = #[.tmp 2] from rfl]
  refine awp_seqR (fun K hK => ?_)
  simp (maxSteps := 2000000) (disch := omega) [ints, rows, scal, wr64, wr8]
  (repeat' first | refine hK _ ?_ | apply And.intro) <;> clear hK K <;> try first | omega | rfl | (simp <;> omega)
  refine awp_seq ?_
  refine awp_seqR (fun K hK => ?_)
  simp (maxSteps := 2000000) (disch := omega) [ints, rows, scal, wr64, wr8]
  (repeat' apply And.intro)
  all_goals (try omega)
  refine call_rule (caps := []) (h1) [] [] 2 rfl rfl rfl rfl (by kernel_rfl) (by simp) ?_ trivial trivial rfl trivial trivial (by simp) ?_
  · simp [scal, rows, ints]
  simp (maxSteps := 2000000) (disch := omega) [ints, rows, scal, wr64, wr8]
  (repeat' first | refine hK _ ?_ | apply And.intro) <;> clear hK K <;> try first | omega | rfl | (simp <;> omega)
  refine awp_cond (b := false) (p := 2) (by simp [scal] <;> omega) ?_
  refine awp_skip ?_
  show awp _ _ _ _
  refine awp_seqR (fun K hK => ?_)
  simp (maxSteps := 2000000) (disch := omega) [ints, rows, scal, wr64, wr8]
  (repeat' apply And.intro)
  all_goals (try omega)
  refine call_rule (caps := []) (h2) [] [] 2 rfl rfl rfl rfl (by kernel_rfl) (by simp) ?_ trivial trivial rfl trivial trivial (by simp) ?_
  · simp [scal, rows, ints]
  simp (maxSteps := 2000000) (disch := omega) [ints, rows, scal, wr64, wr8]
  (repeat' apply And.intro)
  all_goals (try omega)
  refine call_rule (caps := []) (h3) [0] [8000000] 0 rfl rfl rfl rfl (by kernel_rfl) (by simp) ?_ ?_ (by simp) rfl (by simp) ⟨.inl ⟨by omega, by omega⟩, trivial⟩ (by simp) ?_
  · simp [scal, rows, ints]
  · simp [scal, rows, ints]
  simp (maxSteps := 2000000) (disch := omega) [ints, rows, scal, wr64, wr8]
  (repeat' first | refine hK _ ?_ | apply And.intro) <;> clear hK K <;> try first | omega | rfl | (simp <;> omega)
  refine awp_ret ?_
  refine ⟨⟨.inr rfl, _, [], rfl, trivial, trivial, by simp, ?_⟩, by simp⟩
  simp

set_option linter.unusedSimpArgs false

def inB (n : Nat) (l : List Int) : Bool := l.all fun x => decide (0 ≤ x) && decide (x < (n : Int))
theorem inB_t {n : Nat} {l : List Int} (h : ∀ i (h : i < l.length), 0 ≤ l[i] ∧ l[i] < (n : Int)) : inB n l = true := by
  unfold inB
  rw [List.all_eq_true]
  intro x hx
  obtain ⟨i, hi, rfl⟩ := List.getElem_of_mem hx
  have := h i hi
  simp [this.1, this.2]
theorem inB_f {n : Nat} {l : List Int} {i : Nat} (h : i < l.length) (hb : l[i] < 0 ∨ (n : Int) ≤ l[i]) : inB n l = false := by
  unfold inB
  rw [List.all_eq_false]
  refine ⟨l[i], List.getElem_mem h, ?_⟩
  rcases hb with hb | hb
  · simp; omega
  · simp; omega
theorem inB_inv {n : Nat} {l : List Int} (h : inB n l = true) : ∀ i (h : i < l.length), 0 ≤ l[i] ∧ l[i] < (n : Int) := by
  intro i hi
  unfold inB at h
  have := List.all_eq_true.1 h l[i] (List.getElem_mem hi)
  simpa using this
theorem idG_succ (T : Nat → Nat → Nat) (n f e : Nat) : idG T n (f + 1) e = if isId T n e = true then (e : Int) else idG T n f (e + 1) := rfl

set_option linter.unusedSimpArgs false

set_option maxRecDepth 100000 in
set_option maxHeartbeats 8000000 in
theorem areEl_fn (tb : List (List Int)) (l : List Int) (hl : l.length ≤ 1000000) (htl : tb.length ≤ 1000000) :
    FnA Try.prog 127 [.t 0 (rows tb), .t 0 (ints l)] (.t 2 (.bool (inB tb.length l))) := by
  refine fn_intro Try.func127 rfl (by simp [Try.f127]) ?_
  rw [show Try.f127.ntmps = 22 from rfl, show Try.f127.results = #[.tmp 4] from rfl]
  refine awp_seqR (fun K hK => ?_)
  simp (maxSteps := 2000000) (disch := omega) [ints, rows, scal, wr64, wr8]
  (repeat' first | refine hK _ ?_ | apply And.intro) <;> clear hK K <;> try first | omega | rfl | (simp <;> omega)
  refine awp_seq ?_
  refine awp_seqR (fun K hK => ?_)
  simp (maxSteps := 2000000) (disch := omega) [ints, rows, scal, wr64, wr8, ints]
  (repeat' first | refine hK _ ?_ | apply And.intro) <;> clear hK K <;> try first | omega | rfl | (simp <;> omega)
  refine awp_block ?_
  refine awp_loop (fun k : Nat => mkS [(0, .t 0 (rows tb)), (7, .t 0 (ints l)), (8, .t 2 (.int .i64 (l.length : Nat))), (9, .t 2 (.int .i64 (k : Nat)))] [] 0 22 [.any, .any]) (fun k => k ≤ l.length ∧ ∀ i (h : i < l.length), i < k → 0 ≤ l[i] ∧ l[i] < (tb.length : Int)) (fun k => l.length - k) ?_ ?_
  · refine ⟨0, ⟨by omega, fun i h h2 => by omega⟩, ?_⟩
    refine wk_list [] rfl ?_ ?_ ?_ ?_
    all_goals try simp [ints, rows, ints]
  rintro k ⟨hk, hin⟩
  refine awp_seqR (fun K hK => ?_)
  simp (maxSteps := 2000000) (disch := omega) [ints, rows, scal, wr64, wr8]
  (repeat' first | refine hK _ ?_ | apply And.intro) <;> clear hK K <;> try first | omega | rfl | (simp <;> omega)
  refine awp_seq ?_
  by_cases hkl : k < l.length
  · refine awp_cond (b := true) (p := 2) (by simp [scal, hkl] <;> omega) ?_
    refine awp_skip ?_
    show awp _ _ _ _
    refine awp_seq ?_
    refine awp_block ?_
    refine awp_seqR (fun K hK => ?_)
    simp (maxSteps := 2000000) (disch := omega) [ints, rows, scal, wr64, wr8, ints, hkl]
    (repeat' first | refine hK _ ?_ | apply And.intro) <;> clear hK K <;> try first | omega | rfl | (simp <;> omega)
    by_cases h1 : l[k] < 0
    · refine awp_seqR (fun K hK => ?_)
      simp (maxSteps := 2000000) (disch := omega) [ints, rows, scal, wr64, wr8, h1]
      (repeat' first | refine hK _ ?_ | apply And.intro) <;> clear hK K <;> try first | omega | rfl | (simp <;> omega)
      refine awp_cond (b := true) (p := 2) (by simp [scal, h1] <;> omega) ?_
      refine awp_seqR (fun K hK => ?_)
      simp (maxSteps := 2000000) (disch := omega) [ints, rows, scal, wr64, wr8]
      (repeat' first | refine hK _ ?_ | apply And.intro) <;> clear hK K <;> try first | omega | rfl | (simp <;> omega)
      refine awp_ret ?_
      rw [inB_f hkl (.inl h1)]
      refine ⟨⟨.inr rfl, _, [], rfl, trivial, trivial, by simp, ?_⟩, by simp⟩
      simp
    · refine awp_seqR (fun K hK => ?_)
      simp (maxSteps := 2000000) (disch := omega) [ints, rows, scal, wr64, wr8, h1, rows]
      (repeat' first | refine hK _ ?_ | apply And.intro) <;> clear hK K <;> try first | omega | rfl | (simp <;> omega)
      by_cases h2 : (tb.length : Int) ≤ l[k]
      · refine awp_cond (b := true) (p := 2) (by simp [scal, h2] <;> omega) ?_
        refine awp_seqR (fun K hK => ?_)
        simp (maxSteps := 2000000) (disch := omega) [ints, rows, scal, wr64, wr8]
        (repeat' first | refine hK _ ?_ | apply And.intro) <;> clear hK K <;> try first | omega | rfl | (simp <;> omega)
        refine awp_ret ?_
        rw [inB_f hkl (.inr h2)]
        refine ⟨⟨.inr rfl, _, [], rfl, trivial, trivial, by simp, ?_⟩, by simp⟩
        simp
      · refine awp_cond (b := false) (p := 2) (by simp [scal, h2] <;> omega) ?_
        refine awp_skip ?_
        show awp _ _ _ _
        refine awp_R (fun K hK => ?_)
        simp (maxSteps := 2000000) (disch := omega) [ints, rows, scal, wr64, wr8]
        (repeat' first | refine hK _ ?_ | apply And.intro) <;> clear hK K <;> try first | omega | rfl | (simp <;> omega)
        refine ⟨k + 1, ⟨by omega, fun i h h3 => ?_⟩, by omega, ?_⟩
        · rcases Nat.lt_or_ge i k with h4 | h4
          · exact hin i h h4
          · obtain rfl : i = k := by omega
            omega
        refine wk_list [] rfl ?_ ?_ ?_ ?_
        all_goals try simp [ints, rows, ints]
  · obtain rfl : k = l.length := by omega
    refine awp_cond (b := false) (p := 2) (by simp [scal] <;> omega) ?_
    refine awp_exit ?_
    show awp _ _ _ _
    refine awp_seqR (fun K hK => ?_)
    simp (maxSteps := 2000000) (disch := omega) [ints, rows, scal, wr64, wr8]
    (repeat' first | refine hK _ ?_ | apply And.intro) <;> clear hK K <;> try first | omega | rfl | (simp <;> omega)
    refine awp_ret ?_
    rw [inB_t fun i h => hin i h h]
    refine ⟨⟨.inr rfl, _, [], rfl, trivial, trivial, by simp, ?_⟩, by simp⟩
    simp
set_option maxRecDepth 100000 in
set_option maxHeartbeats 4000000 in
theorem mvalid_fn (t : List (List Int)) (v1 : vErr t = 0) : FnA Try.prog 86 [.t 0 (rows t)] (.t 2 (.bool true)) := by
  have hV := mulVal_fn t
  rw [v1] at hV
  refine fn_intro Try.func86 rfl (by simp [Try.f86]) ?_
  rw [show Try.f86.ntmps = 6 from rfl, show Try.f86.results = #[.tmp 2] from rfl]
  refine awp_seqR (fun K hK => ?_)
  simp (maxSteps := 2000000) (disch := omega) [ints, rows, scal, wr64, wr8]
  (repeat' first | refine hK _ ?_ | apply And.intro) <;> clear hK K <;> try first | omega | rfl | (simp <;> omega)
  refine awp_seqR (fun K hK => ?_)
  simp (maxSteps := 2000000) (disch := omega) [ints, rows, scal, wr64, wr8]
  (repeat' apply And.intro)
  all_goals (try omega)
  refine call_rule (caps := []) (hV) [] [] 2 rfl rfl rfl rfl (by kernel_rfl) (by simp) ?_ trivial trivial rfl trivial trivial (by simp) ?_
  · simp [scal, rows, ints, rows]
  simp (maxSteps := 2000000) (disch := omega) [ints, rows, scal, wr64, wr8]
  (repeat' first | refine hK _ ?_ | apply And.intro) <;> clear hK K <;> try first | omega | rfl | (simp <;> omega)
  refine awp_ret ?_
  refine ⟨⟨.inr rfl, _, [], rfl, trivial, trivial, by simp, ?_⟩, by simp⟩
  simp
set_option maxRecDepth 100000 in
set_option maxHeartbeats 4000000 in
theorem has_fn (t : List (List Int)) (v1 : vErr t = 0) (x : Nat) (hx : x < t.length) : FnA Try.prog 107 [.t 0 (rows t), .t 0 (ints [(x : Int)])] (.t 2 (.bool true)) := by
  obtain ⟨-, hl4⟩ := vErr_len v1
  have hA := areEl_fn t [(x : Int)] (by simp) (by omega)
  rw [inB_t (fun i h => by
    obtain rfl : i = 0 := by simpa using h
    simp only [List.getElem_cons_zero]; omega)] at hA
  have hV := mvalid_fn t v1
  refine fn_intro Try.func107 rfl (by simp [Try.f107]) ?_
  rw [show Try.f107.ntmps = 12 from rfl, show Try.f107.results = #[.tmp 4] from rfl]
  refine awp_seqR (fun K hK => ?_)
  simp (maxSteps := 2000000) (disch := omega) [ints, rows, scal, wr64, wr8]
  (repeat' first | refine hK _ ?_ | apply And.intro) <;> clear hK K <;> try first | omega | rfl | (simp <;> omega)
  refine awp_seqR (fun K hK => ?_)
  simp (maxSteps := 2000000) (disch := omega) [ints, rows, scal, wr64, wr8]
  (repeat' apply And.intro)
  all_goals (try omega)
  refine call_rule (caps := []) (hA) [] [] 2 rfl rfl rfl rfl (by kernel_rfl) (by simp) ?_ trivial trivial rfl trivial trivial (by simp) ?_
  · simp [scal, rows, ints, rows, ints]
  simp (maxSteps := 2000000) (disch := omega) [ints, rows, scal, wr64, wr8]
  (repeat' apply And.intro)
  all_goals (try omega)
  refine call_rule (caps := []) (hV) [] [] 2 (by simp [scal, rows, ints, rows]) rfl rfl rfl (by kernel_rfl) (by simp) ?_ trivial trivial rfl trivial trivial (by simp) ?_
  · simp [scal, rows, ints, rows]
  simp (maxSteps := 2000000) (disch := omega) [ints, rows, scal, wr64, wr8]
  (repeat' first | refine hK _ ?_ | apply And.intro) <;> clear hK K <;> try first | omega | rfl | (simp <;> omega)
  refine awp_ret ?_
  refine ⟨⟨.inr rfl, _, [], rfl, trivial, trivial, by simp, ?_⟩, by simp⟩
  simp
section
variable {T : Nat → Nat → Nat} {n : Nat}
theorem pw_pw (hT : ∀ r c, r < n → c < n → T r c < n) (hA : Assoc n T) {x : Nat} (hx : x < n) (a : Nat) : ∀ m, pw T (pw T x a) m = pw T x ((a + 1) * m + a)
  | 0 => by rw [Nat.mul_zero, Nat.zero_add]; rfl
  | m + 1 => by
    rw [pw_succ, pw_pw hT hA hx a m, pw_add hT hA hx]
    congr 1
    rw [Nat.mul_succ]
    omega
theorem pw_idem_all {e : Nat} (h : T e e = e) : ∀ m, pw T e m = e
  | 0 => rfl
  | m + 1 => by rw [pw_succ, pw_idem_all h m, h]
theorem idem_one (hT : ∀ r c, r < n → c < n → T r c < n) (hA : Assoc n T) {x : Nat} (hx : x < n) {a b : Nat} (ha : T (pw T x a) (pw T x a) = pw T x a) (hb : T (pw T x b) (pw T x b) = pw T x b) : pw T x a = pw T x b := by
  have h1 := pw_pw hT hA hx a b
  have h2 := pw_pw hT hA hx b a
  rw [pw_idem_all ha] at h1
  rw [pw_idem_all hb] at h2
  rw [h1, h2]
  congr 1
  rw [Nat.add_mul, Nat.add_mul, Nat.mul_comm b a]
  omega
theorem pw_per (hT : ∀ r c, r < n → c < n → T r c < n) {x : Nat} {j p : Nat} (h : pw T x j = pw T x (j + p)) : ∀ (q d : Nat), pw T x (j + d) = pw T x (j + d + q * p)
  | 0, d => by rw [Nat.zero_mul, Nat.add_zero]
  | q + 1, d => by
    have e : pw T x (j + d) = pw T x (j + p + d) := by rw [← pw_it, ← pw_it, h]
    rw [pw_per hT h q d, Nat.succ_mul, show j + d + q * p = j + (d + q * p) by omega]
    have e2 : pw T x (j + (d + q * p)) = pw T x (j + p + (d + q * p)) := by rw [← pw_it, ← pw_it x (j + p), h]
    rw [e2]
    congr 1
    omega
end
set_option maxRecDepth 100000 in
set_option maxHeartbeats 8000000 in
theorem mpower_fn (tb : List (List Int)) (n : Nat) (T : Nat → Nat → Nat) (ht : TbL tb n T) (hA : Assoc n T) (hn : n ≤ 1000) (x : Nat) (hx : x < n) (k : Nat) (hk1 : 1 ≤ k) (hk : k ≤ 1000000) :
    FnA Try.prog 73 [.t 0 (rows tb), .t 2 (.int .i64 (x : Nat)), .t 2 (.int .i64 (k : Nat))] (.t 2 (.int .i64 (pw T x (k - 1) : Nat))) := by
  refine fn_intro Try.func73 rfl (by simp [Try.f73]) ?_
  rw [show Try.f73.ntmps = 33 from rfl, show Try.f73.results = #[.tmp 6] from rfl]
  refine awp_seqR (fun K hK => ?_)
  simp (maxSteps := 2000000) (disch := omega) [ints, rows, scal, wr64, wr8]
  (repeat' first | refine hK _ ?_ | apply And.intro) <;> clear hK K <;> try first | omega | rfl | (simp <;> omega)
  refine awp_seqR (fun K hK => ?_)
  simp (maxSteps := 2000000) (disch := omega) [ints, rows, scal, wr64, wr8]
  (repeat' first | refine hK _ ?_ | apply And.intro) <;> clear hK K <;> try first | omega | rfl | (simp <;> omega)
  refine awp_seq ?_
  refine awp_seqR (fun K hK => ?_)
  simp (maxSteps := 2000000) (disch := omega) [ints, rows, scal, wr64, wr8]
  (repeat' first | refine hK _ ?_ | apply And.intro) <;> clear hK K <;> try first | omega | rfl | (simp <;> omega)
  refine awp_block ?_
  refine awp_loop (fun y : Nat × Nat × Nat => mkS [(0, .t 0 (rows tb)), (1, .t 2 (.int .i64 (pw T x y.2.1 : Nat))), (2, .t 2 (.int .i64 (y.2.2 : Nat))), (7, .t 2 (.int .i64 (pw T x y.1 : Nat)))] [] 0 33 [.any, .any, .any]) (fun y => y.1 + 1 + y.2.2 * (y.2.1 + 1) = k) (fun y => y.2.2) ?_ ?_
  · refine ⟨(0, 0, k - 1), by simp only; omega, ?_⟩
    refine wk_list [] rfl ?_ ?_ ?_ ?_
    all_goals try simp [ints, rows, ints, pw, itT]
    omega
  rintro ⟨r, b, m⟩ hI
  simp only at hI
  have hbl := pw_lt ht.lt hx b
  have hrl := pw_lt ht.lt hx r
  obtain ⟨g1, g2, g3⟩ := ht.get hrl hbl
  obtain ⟨g4, g5, g6⟩ := ht.get hbl hbl
  rw [pw_add ht.lt hA hx] at g3 g6
  have hmk : m ≤ k := by
    have : m * 1 ≤ m * (b + 1) := Nat.mul_le_mul_left m (by omega)
    omega
  refine awp_seq ?_
  refine awp_seqR (fun K hK => ?_)
  simp (maxSteps := 2000000) (disch := omega) [ints, rows, scal, wr64, wr8]
  (repeat' first | refine hK _ ?_ | apply And.intro) <;> clear hK K <;> try first | omega | rfl | (simp <;> omega)
  by_cases hm : m = 0
  · subst hm
    refine awp_cond (b := false) (p := 2) (by simp [scal] <;> omega) ?_
    refine awp_exit ?_
    show awp _ _ _ _
    refine awp_seqR (fun K hK => ?_)
    simp (maxSteps := 2000000) (disch := omega) [ints, rows, scal, wr64, wr8]
    (repeat' first | refine hK _ ?_ | apply And.intro) <;> clear hK K <;> try first | omega | rfl | (simp <;> omega)
    refine awp_ret ?_
    rw [show k - 1 = r by omega]
    refine ⟨⟨.inr rfl, _, [], rfl, trivial, trivial, by simp, ?_⟩, by simp⟩
    simp
  have hm0 : (0 : Int) < (m : Int) := by omega
  obtain ⟨h, hh⟩ : ∃ h : Nat, (m : Int) / 2 = (h : Int) := ⟨m / 2, by omega⟩
  refine awp_cond (b := true) (p := 2) (by simp [scal, hm0] <;> omega) ?_
  refine awp_skip ?_
  show awp _ _ _ _
  refine awp_seq ?_
  refine awp_block ?_
  refine awp_seq (awp_mono (Q := fun e σ => e = Exit.normal ∧ ∃ r2, r2 + 1 + h * (b + b + 1 + 1) = k ∧ Wk σ (mkS [(0, .t 0 (rows tb)), (1, .t 2 (.int .i64 (pw T x b : Nat))), (2, .t 2 (.int .i64 (m : Nat))), (7, .t 2 (.int .i64 (pw T x r2 : Nat)))] [] 0 33 [.any, .any, .any])) ?_ ?_)
  · by_cases hodd : (m : Int) % 2 = 1
    · refine awp_seqR (fun K hK => ?_)
      simp (maxSteps := 2000000) (disch := omega) [ints, rows, scal, wr64, wr8, hodd]
      (repeat' first | refine hK _ ?_ | apply And.intro) <;> clear hK K <;> try first | omega | rfl | (simp <;> omega)
      refine awp_cond (b := true) (p := 2) (by simp [scal] <;> omega) ?_
      refine awp_R (fun K hK => ?_)
      simp (maxSteps := 2000000) (disch := omega) [ints, rows, scal, wr64, wr8, rows, ints, g1, g2, g3]
      (repeat' first | refine hK _ ?_ | apply And.intro) <;> clear hK K <;> try first | omega | rfl | (simp <;> omega)
      refine ⟨r + b + 1, ?_, ?_⟩
      · obtain rfl : m = 2 * h + 1 := by omega
        rw [Nat.add_mul, Nat.one_mul, Nat.mul_assoc] at hI
        have : h * (b + b + 1 + 1) = 2 * (h * (b + 1)) := by
          rw [show b + b + 1 + 1 = 2 * (b + 1) by omega, Nat.mul_left_comm]
        omega
      refine wk_list [] rfl ?_ ?_ ?_ ?_
      all_goals try simp [ints, rows, ints]
    · have hev : (m : Int) % 2 = 0 := by omega
      refine awp_seqR (fun K hK => ?_)
      simp (maxSteps := 2000000) (disch := omega) [ints, rows, scal, wr64, wr8, hev]
      (repeat' first | refine hK _ ?_ | apply And.intro) <;> clear hK K <;> try first | omega | rfl | (simp <;> omega)
      refine awp_cond (b := false) (p := 2) (by simp [scal] <;> omega) ?_
      refine awp_skip ?_
      refine ⟨rfl, r, ?_, ?_⟩
      · obtain rfl : m = 2 * h := by omega
        rw [Nat.mul_assoc] at hI
        have : h * (b + b + 1 + 1) = 2 * (h * (b + 1)) := by
          rw [show b + b + 1 + 1 = 2 * (b + 1) by omega, Nat.mul_left_comm]
        omega
      refine wk_list [] rfl ?_ ?_ ?_ ?_
      all_goals try simp [ints, rows, ints]
  rintro e σ ⟨rfl, r2, hr2, hwk⟩
  refine awp_weak hwk ?_
  clear hwk
  show awp _ _ _ _
  refine awp_R (fun K hK => ?_)
  simp (maxSteps := 2000000) (disch := omega) [ints, rows, scal, wr64, wr8, rows, ints, g4, g5, g6]
  (repeat' first | refine hK _ ?_ | apply And.intro) <;> clear hK K <;> try first | omega | rfl | (simp <;> omega)
  show awp _ _ _ _
  refine awp_R (fun K hK => ?_)
  simp (maxSteps := 2000000) (disch := omega) [ints, rows, scal, wr64, wr8, hh]
  (repeat' first | refine hK _ ?_ | apply And.intro) <;> clear hK K <;> try first | omega | rfl | (simp <;> omega)
  refine ⟨(r2, b + b + 1, h), hr2, by simp only; omega, ?_⟩
  refine wk_list [] rfl ?_ ?_ ?_ ?_
  all_goals try simp [ints, rows, ints]
end Go.Proofs.Ytghnmmfkckneaaa.M

namespace Go.Proofs.Ytghnmmfkckneaaa.M
open Go.RowKit
set_option linter.unusedVariables false
set_option linter.unusedSimpArgs false

def exF (T : Nat → Nat → Nat) (x : Nat) : Nat → Nat → Nat
  | 0, _ => 0
  | k + 1, y => if y = pw T x k then k + 1 else exF T x k y
theorem exF_le (T : Nat → Nat → Nat) (x : Nat) : ∀ k y, exF T x k y ≤ k
  | 0, y => Nat.le_refl _
  | k + 1, y => by
    rw [exF]
    split
    · omega
    · have := exF_le T x k y; omega
theorem exF_some {T : Nat → Nat → Nat} {x : Nat} : ∀ {k y : Nat}, exF T x k y ≠ 0 → ∃ j, j < k ∧ exF T x k y = j + 1 ∧ pw T x j = y
  | 0, y, h => absurd rfl h
  | k + 1, y, h => by
    rw [exF] at h ⊢
    by_cases e : y = pw T x k
    · rw [if_pos e] at h ⊢
      exact ⟨k, by omega, rfl, e.symm⟩
    · rw [if_neg e] at h ⊢
      obtain ⟨j, h1, h2, h3⟩ := exF_some h
      exact ⟨j, by omega, h2, h3⟩
theorem exF_none {T : Nat → Nat → Nat} {x : Nat} : ∀ {k y : Nat}, exF T x k y = 0 → ∀ j, j < k → pw T x j ≠ y
  | 0, y, h, j, hj => by omega
  | k + 1, y, h, j, hj => by
    rw [exF] at h
    by_cases e : y = pw T x k
    · rw [if_pos e] at h; omega
    · rw [if_neg e] at h
      rcases Nat.lt_or_ge j k with h2 | h2
      · exact exF_none h j h2
      · obtain rfl : j = k := by omega
        exact fun h3 => e h3.symm
def exO (T : Nat → Nat → Nat) (n x k : Nat) : AObj := .row 3 1 2 (tab n fun y => .int .i64 (exF T x k y : Nat))
def IxG (T : Nat → Nat → Nat) (n x : Nat) (res : AV) : Prop := ∃ j k : Nat, j < k ∧ k ≤ n ∧ pw T x j = pw T x k ∧ res = .tup [.t 2 (.int .i64 ((j + 1 : Nat) : Int)), .t 2 (.int .i64 ((k - j : Nat) : Int))]
set_option maxRecDepth 100000 in
set_option maxHeartbeats 8000000 in
theorem indexPeriod_fn (tb : List (List Int)) (v1 : vErr tb = 0) (x : Nat) (hx : x < tb.length) :
    ∃ res, IxG (tabOf tb) tb.length x res ∧ FnA Try.prog 72 [.t 0 (rows tb), .t 2 (.int .i64 (x : Nat))] res := by
  obtain ⟨hl0, hl4⟩ := vErr_len v1
  have ht := TbL.of v1
  have hH := has_fn tb v1 x hx
  refine fn_introE Try.func72 rfl (by simp [Try.f72]) ?_
  rw [show Try.f72.ntmps = 46 from rfl, show Try.f72.results = #[.tmp 4, .tmp 5] from rfl]
  refine awp_seqR (fun K hK => ?_)
  simp (maxSteps := 2000000) (disch := omega) [ints, rows, scal, wr64, wr8]
  (repeat' first | refine hK _ ?_ | apply And.intro) <;> clear hK K <;> try first | omega | rfl | (simp <;> omega)
  refine awp_seq ?_
  refine awp_seqR (fun K hK => ?_)
  simp (maxSteps := 2000000) (disch := omega) [ints, rows, scal, wr64, wr8]
  (repeat' apply And.intro)
  all_goals (try omega)
  refine call_rule (caps := []) (hH) [] [] 2 rfl rfl rfl rfl (by kernel_rfl) (by simp) ?_ trivial trivial rfl trivial trivial (by simp) ?_
  · simp [scal, rows, ints, rows, ints]
  simp (maxSteps := 2000000) (disch := omega) [ints, rows, scal, wr64, wr8]
  (repeat' first | refine hK _ ?_ | apply And.intro) <;> clear hK K <;> try first | omega | rfl | (simp <;> omega)
  refine awp_cond (b := false) (p := 2) (by simp [scal] <;> omega) ?_
  refine awp_skip ?_
  show awp _ _ _ _
  refine awp_seqR (fun K hK => ?_)
  simp (maxSteps := 2000000) (disch := omega) [ints, rows, scal, wr64, wr8, rows]
  (repeat' first | refine hK _ ?_ | apply And.intro) <;> clear hK K <;> try first | omega | rfl | (simp <;> omega)
  refine awp_seqR (fun K hK => ?_)
  simp (maxSteps := 2000000) (disch := omega) [ints, rows, scal, wr64, wr8]
  (repeat' first | refine hK _ ?_ | apply And.intro) <;> clear hK K <;> try first | omega | rfl | (simp <;> omega)
  refine awp_seq ?_
  refine awp_block ?_
  refine awp_loop (fun k : Nat => mkS [(0, .t 0 (rows tb)), (1, .t 2 (.int .i64 (x : Nat))), (6, .own 0 tb.length), (7, .t 2 (.int .i64 (pw (tabOf tb) x k : Nat))), (8, .t 2 (.int .i64 (k + 1 : Nat)))] [(0, exO (tabOf tb) tb.length x k)] 1 46 [.any, .any]) (fun k => ∀ i j, i < j → j < k → pw (tabOf tb) x i ≠ pw (tabOf tb) x j) (fun k => tb.length + 1 - k) ?_ ?_
  · refine ⟨0, fun i j h1 h2 => by omega, ?_⟩
    refine wk_list [(0, some 9000000)] rfl ?_ ?_ ?_ ?_
    all_goals try simp [ints, exO, exF, pw, itT, rows, ints, rep_tab]
  intro k hd
  have hpl := pw_lt ht.lt hx k
  obtain ⟨g4, g5, g6⟩ := ht.get hpl hx
  have hps := pw_succ (T := tabOf tb) x k
  have hkn : k ≤ tb.length := by
    rcases Nat.lt_or_ge tb.length k with h | h
    · obtain ⟨i, j, h1, h2, h3⟩ := pw_rep ht.lt hx
      exact absurd h3 (hd i j h1 (by omega))
    · exact h
  have hle := exF_le (tabOf tb) x k (pw (tabOf tb) x k)
  refine awp_seq ?_
  by_cases hz : exF (tabOf tb) x k (pw (tabOf tb) x k) = 0
  · have hne := exF_none hz
    refine awp_seqR (fun K hK => ?_)
    simp (maxSteps := 2000000) (disch := omega) [ints, rows, scal, wr64, wr8, exO, hpl, hz]
    (repeat' first | refine hK _ ?_ | apply And.intro) <;> clear hK K <;> try first | omega | rfl | (simp <;> omega)
    refine awp_cond (b := true) (p := 2) (by simp [scal] <;> omega) ?_
    refine awp_skip ?_
    show awp _ _ _ _
    refine awp_block ?_
    refine awp_seqR (fun K hK => ?_)
    simp (maxSteps := 2000000) (disch := omega) [ints, rows, scal, wr64, wr8, exO, hpl]
    (repeat' first | refine hK _ ?_ | apply And.intro) <;> clear hK K <;> try first | omega | rfl | (simp <;> omega)
    refine awp_seqR (fun K hK => ?_)
    simp (maxSteps := 2000000) (disch := omega) [ints, rows, scal, wr64, wr8, rows, ints, g4, g5, g6, exO]
    (repeat' first | refine hK _ ?_ | apply And.intro) <;> clear hK K <;> try first | omega | rfl | (simp <;> omega)
    refine awp_R (fun K hK => ?_)
    simp (maxSteps := 2000000) (disch := omega) [ints, rows, scal, wr64, wr8]
    (repeat' first | refine hK _ ?_ | apply And.intro) <;> clear hK K <;> try first | omega | rfl | (simp <;> omega)
    refine ⟨k + 1, fun i j h1 h2 => ?_, by omega, ?_⟩
    · rcases Nat.lt_or_ge j k with h | h
      · exact hd i j h1 h
      · obtain rfl : j = k := by omega
        exact hne i h1
    refine wk_list [(0, some 0)] rfl ?_ ?_ ?_ ?_
    all_goals try simp [ints, exO, rows, hps, tab_set]
    refine tab_congr fun y hy => ?_
    rw [exF]
    by_cases e : y = pw (tabOf tb) x k <;> simp [e]
  · obtain ⟨j, hj, hje, hjp⟩ := exF_some hz
    have hz' : ¬ ((j : Int) + 1 = 0) := by omega
    refine awp_seqR (fun K hK => ?_)
    simp (maxSteps := 2000000) (disch := omega) [ints, rows, scal, wr64, wr8, exO, hpl, hje]
    (repeat' first | refine hK _ ?_ | apply And.intro) <;> clear hK K <;> try first | omega | rfl | (simp <;> omega)
    refine awp_cond (b := false) (p := 2) (by simp [scal, hz'] <;> omega) ?_
    refine awp_exit ?_
    show awp _ _ _ _
    refine awp_seqD (by kernel_rfl) (fun K hK => ?_)
    simp (maxSteps := 2000000) (disch := omega) [ints, rows, scal, wr64, wr8, exO, hpl, hje]
    (repeat' first | refine hK _ ?_ | apply And.intro) <;> clear hK K <;> try first | (show chkD _ _ = true; kernel_rfl) | omega | rfl | (simp <;> omega)
    refine awp_ret ?_
    refine ⟨_, ⟨j, k, hj, hkn, hjp, rfl⟩, ?_⟩
    refine ⟨⟨.inr rfl, _, [], rfl, trivial, trivial, by simp, ?_⟩, by simp⟩
    simp
    omega
set_option maxRecDepth 100000 in
set_option maxHeartbeats 8000000 in
theorem mOmega_fn (tb : List (List Int)) (v1 : vErr tb = 0) (x : Nat) (hx : x < tb.length) :
    FnA Try.prog 38 [.t 0 (rows tb), .t 2 (.int .i64 (x : Nat))] (.t 2 (.int .i64 (omT (tabOf tb) tb.length x : Nat))) := by
  obtain ⟨hl0, hl4⟩ := vErr_len v1
  have ht := TbL.of v1
  have hA := vErr_asc v1
  obtain ⟨res, ⟨j, k, hjk, hkn, hper, rfl⟩, hI⟩ := indexPeriod_fn tb v1 x hx
  obtain ⟨p, hp⟩ : ∃ p, p = k - j := ⟨_, rfl⟩
  obtain ⟨q, hq⟩ : ∃ q, q = (j + 1 + p - 1) / p := ⟨_, rfl⟩
  have hp0 : 0 < p := by omega
  have hqp : j + 1 ≤ q * p ∧ q * p ≤ j + p := by
    rw [hq]
    have h1 := Nat.div_add_mod (j + 1 + p - 1) p
    have h2 := Nat.mod_lt (j + 1 + p - 1) hp0
    rw [Nat.mul_comm] at h1
    omega
  have hom : pw (tabOf tb) x (q * p - 1) = omT (tabOf tb) tb.length x := by
    obtain ⟨k0, hk0, e1, e2, -⟩ := omT_spec ht.lt hA hx
    rw [e1]
    refine idem_one ht.lt hA hx ?_ e2
    rw [pw_add ht.lt hA hx]
    have h3 := pw_per ht.lt (x := x) (j := j) (p := p) (by rw [hper]; congr 1; omega) q (q * p - 1 - j)
    rw [show q * p - 1 + (q * p - 1) + 1 = j + (q * p - 1 - j) + q * p by omega, ← h3]
    congr 1
    omega
  have hP := mpower_fn tb tb.length (tabOf tb) ht hA (by omega) x hx (q * p) (by omega) (by omega)
  rw [hom] at hP
  have hpz : ((p : Int) == 0) = false := by simp; omega
  have hpz2 : ¬ ((p : Int) = 0) := by omega
  have hdiv : ((j : Int) + 1 + (p : Int) - 1).tdiv (p : Int) = (q : Int) := by
    rw [Int.tdiv_eq_ediv_of_nonneg (by omega), show (j : Int) + 1 + (p : Int) - 1 = ((j + 1 + p - 1 : Nat) : Int) by omega, hq, Int.natCast_ediv]
  have hmul : (q : Int) * (p : Int) = ((q * p : Nat) : Int) := by rw [Int.natCast_mul]
  have hqb : q ≤ q * p := Nat.le_mul_of_pos_right q hp0
  have hb0 : 0 ≤ (q : Int) * (p : Int) := by rw [hmul]; omega
  have hb1 : (q : Int) * (p : Int) ≤ 1000 := by rw [hmul]; omega
  refine fn_intro Try.func38 rfl (by simp [Try.f38]) ?_
  rw [show Try.f38.ntmps = 26 from rfl, show Try.f38.results = #[.tmp 4] from rfl]
  rw [← hp] at hI
  refine awp_seqR (fun K hK => ?_)
  simp (maxSteps := 2000000) (disch := omega) [ints, rows, scal, wr64, wr8]
  (repeat' first | refine hK _ ?_ | apply And.intro) <;> clear hK K <;> try first | omega | rfl | (simp <;> omega)
  refine awp_seqR (fun K hK => ?_)
  simp (maxSteps := 2000000) (disch := omega) [ints, rows, scal, wr64, wr8]
  (repeat' apply And.intro)
  all_goals (try omega)
  refine call_rule (caps := []) (hI) [] [] 2 rfl rfl rfl rfl (by kernel_rfl) (by simp) ?_ trivial trivial rfl trivial trivial (by simp) ?_
  · simp [scal, rows, ints, rows]
  simp (maxSteps := 2000000) (disch := omega) [ints, rows, scal, wr64, wr8]
  (repeat' first | refine hK _ ?_ | apply And.intro) <;> clear hK K <;> try first | omega | rfl | (simp <;> omega)
  refine awp_seq ?_
  refine awp_seqR (fun K hK => ?_)
  simp (maxSteps := 2000000) (disch := omega) [ints, rows, scal, wr64, wr8, hpz]
  (repeat' first | refine hK _ ?_ | apply And.intro) <;> clear hK K <;> try first | omega | rfl | (simp <;> omega)
  refine awp_cond (b := false) (p := 2) (by simp [scal, hpz2] <;> omega) ?_
  refine awp_skip ?_
  show awp _ _ _ _
  refine awp_seqR (fun K hK => ?_)
  simp (maxSteps := 2000000) (disch := omega) [ints, rows, scal, wr64, wr8, hdiv, hpz2]
  (repeat' apply And.intro)
  all_goals (try omega)
  refine call_rule (caps := []) (hP) [] [] 2 rfl rfl rfl rfl (by kernel_rfl) (by simp) ?_ trivial trivial rfl trivial trivial (by simp) ?_
  · simp [scal, rows, ints, rows]
  simp (maxSteps := 2000000) (disch := omega) [ints, rows, scal, wr64, wr8]
  (repeat' first | refine hK _ ?_ | apply And.intro) <;> clear hK K <;> try first | omega | rfl | (simp <;> omega)
  refine awp_ret ?_
  refine ⟨⟨.inr rfl, _, [], rfl, trivial, trivial, by simp, ?_⟩, by simp⟩
  simp
end Go.Proofs.Ytghnmmfkckneaaa.M
