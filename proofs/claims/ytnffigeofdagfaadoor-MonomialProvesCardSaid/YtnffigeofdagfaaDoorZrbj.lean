/-
  Walk in my logic: useful (monomial); families of own rows that were nil slices.
-/
import Derived.Test.YtnffigeofdagfaaDoorZrav
import Derived.Test.YtnffigeofdagfaaDoorZrbi
import Derived.Test.YtnffigeofdagfaaDoorZrax
namespace Go.Proofs.YtnffigeofdagfaaDoor.M
open Go.RowKit
set_option linter.unusedVariables false
attribute [local simp] KL_ap KD_ap awpL_nil awpL_cons awpD_nil awpD_cons awpOp awpOpD wrE gd aop aBuiltin aNil aMin ASt.eval AV.ofV dstOk ASt.app Eff.heap dels upd_b aLoad aStore aField aFieldV aIndexAddr aIndex aSlice aSliceO aLen aBin iB sB aUn aConv aAlloc aBox aBuild afill avCells AV.leaf setR aBuildSlice frz frzL isOwn vecOf tsOf aMake srcOf aAppend aMkMap aMapUpd aLookup oint cut putL AObj.cnt mkS envOf_nil envOf_cons heapOf_nil heapOf_cons argS Nat.blt_eq callS outV outVs outO heap2 addL delL List.getElem?_cons_zero wkE wkP wkPs wkH wkO keysNd unm mpOf_nil mpOf_cons mkF famM_at famM_lt famU famH_at famH_lt ovr_at ovr_lt ghA ghA1
set_option linter.unusedSimpArgs false

theorem famM0 (mp : List (Nat × Option Nat)) (base : Nat) (g : Nat → Nat) {k : Nat} (h : base ≤ k) : famM mp base 0 g k = none := by
 unfold famM
 rw [if_neg (by omega), if_neg (by omega)]
theorem wk_fam0 {σ : ASt} {el : List (Nat × AV)} {hl : List (Nat × AObj)} {base n : Nat} {F : Nat → AObj} {nx nt : Nat} {gh : List AV} (mp : List (Nat × Option Nat)) (hnt : nt = σ.nt) (he : wkE σ (famM mp base 0 fun j => j) (famU mp 0 fun j => j) nx el) (hh : wkH σ (famM mp base 0 fun j => j) (famU mp 0 fun j => j) nx hl mp) (hn : keysNd mp) (hg : wkPs σ.heap (famM mp base 0 fun j => j) (famU mp 0 fun j => j) nx σ.gh gh)
  (hF : ∀ j, j < n → base + j < nx ∧ wkO σ.heap (famM mp base 0 fun j => j) (famU mp 0 fun j => j) nx none (F j)) : Wk σ (mkF el hl base n F nx nt gh) := by
 refine wk_any (m := famM mp base 0 fun j => j) (un := famU mp 0 fun j => j) hnt (wkE_get he) (fun id o ho => ?_) ⟨fun {i j k} h1 h2 => ?_, fun {k id} hu h => ?_, fun {id} h => ?_⟩ hg
 ·have ho : famH hl base n F id = some o := ho
  unfold famH at ho
  by_cases h1 : id < base
  ·rw [if_pos h1] at ho
   have := (wkH_get hh id).1 o ho
   refine ⟨this.1, ?_⟩
   have e : famM mp base 0 (fun j => j) id = mpOf mp id := by unfold famM; rw [if_pos h1]
   rw [e]
   exact this.2
  ·rw [if_neg h1] at ho
   by_cases h2 : id - base < n
   ·rw [if_pos h2] at ho
    injection ho with ho
    subst ho
    obtain ⟨a1, a2⟩ := hF _ h2
    rw [famM0 mp base _ (by omega)]
    exact ⟨by show id < nx; omega, a2⟩
   ·rw [if_neg h2] at ho; cases ho
 ·unfold famM at h1 h2
  by_cases b1 : i < base
  ·by_cases b2 : j < base
   ·rw [if_pos b1] at h1; rw [if_pos b2] at h2; exact mpOf_inj hn h1 h2
   ·rw [if_neg b2, if_neg (by omega)] at h2; cases h2
  ·rw [if_neg b1, if_neg (by omega)] at h1; cases h1
 ·unfold famM at h
  by_cases b1 : id < base
  ·rw [if_pos b1] at h; exact unm_mem hu.1 h
  ·rw [if_neg b1, if_neg (by omega)] at h; cases h
 ·have h : famH hl base n F id = none := h
  unfold famH at h
  by_cases b1 : id < base
  ·unfold famM
   rw [if_pos b1] at h ⊢; exact (wkH_get hh id).2 h
  ·rw [famM0 mp base _ (by omega)]
structure BeI (L n : Nat) (nx : List (List Int)) (B : Nat → List Nat) (k x : Nat) : Prop where
 mem : ∀ p r, r ∈ B p ↔ ∃ y, y < L ∧ stepR nx r y = p ∧ (r < k ∨ (r = k ∧ y < x))
 len : ∀ p, (B p).length ≤ k * L + x
section
variable {L n : Nat} {nx : List (List Int)} {B : Nat → List Nat} {k x : Nat}
theorem BeI.start : BeI L n nx (fun _ => []) 0 0 := ⟨fun p r => by simp, fun p => by simp⟩
theorem BeI.add (h : BeI L n nx B k x) (hx : x < L) : BeI L n nx (fun j => if j = stepR nx k x then B j ++ [k] else B j) k (x + 1) := by
 refine ⟨fun p r => ?_, fun p => ?_⟩
 ·by_cases e : p = stepR nx k x
  ·simp only [if_pos e, List.mem_append, List.mem_singleton]
   rw [h.mem]
   constructor
   ·rintro (⟨y, a, b, c⟩ | rfl)
    ·exact ⟨y, a, b, by omega⟩
    ·exact ⟨x, hx, e.symm, .inr ⟨rfl, by omega⟩⟩
   ·rintro ⟨y, a, b, c | ⟨c, d⟩⟩
    ·exact .inl ⟨y, a, b, .inl c⟩
    ·exact .inr c
  ·simp only [if_neg e]
   rw [h.mem]
   constructor
   ·rintro ⟨y, a, b, c⟩
    exact ⟨y, a, b, by omega⟩
   ·rintro ⟨y, a, b, c | ⟨c, d⟩⟩
    ·exact ⟨y, a, b, .inl c⟩
    ·by_cases ey : y = x
     ·subst ey c
      exact absurd b.symm e
     ·exact ⟨y, a, b, .inr ⟨c, by omega⟩⟩
 ·have := h.len p
  by_cases e : p = stepR nx k x
  ·simp only [if_pos e]; simp; omega
  ·simp only [if_neg e]; omega
theorem BeI.next (h : BeI L n nx B k L) : BeI L n nx B (k + 1) 0 := by
 refine ⟨fun p r => ?_, fun p => by have := h.len p; rw [Nat.add_mul]; omega⟩
 rw [h.mem]
 constructor
 ·rintro ⟨y, a, b, c⟩
  exact ⟨y, a, b, by omega⟩
 ·rintro ⟨y, a, b, c⟩
  exact ⟨y, a, b, by omega⟩
end
structure UsI (L n : Nat) (bs : List Bool) (nx : List (List Int)) (B : Nat → List Nat) (Q : List Nat) (M : Nat → Bool) (i x : Nat) : Prop where
 nd : Q.Nodup
 lt : ∀ q ∈ Q, q < n
 met : ∀ q, q < n → (M q = true ↔ q ∈ Q)
 use : ∀ q ∈ Q, ∃ w, (∀ a ∈ w, a < L) ∧ accR bs nx q w = true
 fin : ∀ q, q < n → bs.getD q false = true → q ∈ Q
 done : ∀ (j v : Nat), j < i → Q[j]? = some v → ∀ r ∈ B v, r ∈ Q
 row : ∀ v, Q[i]? = some v → ∀ (y r : Nat), y < x → (B v)[y]? = some r → r ∈ Q
structure UsB (n : Nat) (bs : List Bool) (Q : List Nat) (M : Nat → Bool) (k : Nat) : Prop where
 nd : Q.Nodup
 mem : ∀ q, q ∈ Q ↔ q < k ∧ bs.getD q false = true
 met : ∀ q, q < n → (M q = true ↔ q ∈ Q)
section
variable {L n s : Nat} {bs : List Bool} {nx : List (List Int)} {B : Nat → List Nat} {Q : List Nat} {M : Nat → Bool} {i x k : Nat}
theorem UsB.start : UsB n bs [] (fun _ => false) 0 := ⟨by simp, by simp, by simp⟩
theorem UsB.old (h : UsB n bs Q M k) (hf : bs.getD k false = false) : UsB n bs Q M (k + 1) := ⟨h.nd, fun q => by
 rw [h.mem]
 constructor
 ·rintro ⟨a, b⟩; exact ⟨by omega, b⟩
 ·rintro ⟨a, b⟩
  refine ⟨?_, b⟩
  by_cases e : q = k
  ·subst e; rw [hf] at b; cases b
  ·omega, h.met⟩
theorem UsB.add (h : UsB n bs Q M k) (hf : bs.getD k false = true) : UsB n bs (Q ++ [k]) (fun j => if j = k then true else M j) (k + 1) := by
 have hn : k ∉ Q := fun g => by have := ((h.mem k).1 g).1; omega
 refine ⟨nodup_snoc h.nd hn, fun q => ?_, fun q hq => ?_⟩
 ·rw [List.mem_append, List.mem_singleton, h.mem]
  constructor
  ·rintro (⟨a, b⟩ | rfl)
   ·exact ⟨by omega, b⟩
   ·exact ⟨by omega, hf⟩
  ·rintro ⟨a, b⟩
   by_cases e : q = k
   ·exact .inr e
   ·exact .inl ⟨by omega, b⟩
 ·by_cases e : q = k
  ·simp [e]
  ·simp [e, h.met q hq]
theorem UsB.next (h : UsB n bs Q M n) : UsI L n bs nx B Q M 0 0 := ⟨h.nd, fun q hq => ((h.mem q).1 hq).1, h.met, fun q hq => ⟨[], by simp, by simpa [accR, walkR] using ((h.mem q).1 hq).2⟩, fun q hq hb => (h.mem q).2 ⟨hq, hb⟩, fun j v hj => by omega, fun v _ y r hy => by omega⟩
theorem UsB.le (h : UsB n bs Q M k) (hk : k ≤ n) : Q.length ≤ n := nodupLe h.nd (fun q hq => by have := ((h.mem q).1 hq).1; omega)
theorem UsI.le (h : UsI L n bs nx B Q M i x) : Q.length ≤ n := nodupLe h.nd h.lt
theorem UsI.old (h : UsI L n bs nx B Q M i x) {v r : Nat} (hv : Q[i]? = some v) (hr : (B v)[x]? = some r) (hrn : r < n) (hm : M r = true) : UsI L n bs nx B Q M i (x + 1) := ⟨h.nd, h.lt, h.met, h.use, h.fin, h.done, fun v' hv' y r' hy hr' => by
 rw [hv] at hv'
 injection hv' with hv'
 subst hv'
 by_cases e : y = x
 ·subst e
  rw [hr] at hr'
  injection hr' with hr'
  subst hr'
  exact (h.met _ hrn).1 hm
 ·exact h.row _ hv y r' (by omega) hr'⟩
theorem UsI.add (hB : BeI L n nx B n 0) (h : UsI L n bs nx B Q M i x) {v r : Nat} (hv : Q[i]? = some v) (hr : (B v)[x]? = some r) (hrn : r < n) (hm : M r = false) : UsI L n bs nx B (Q ++ [r]) (fun j => if j = r then true else M j) i (x + 1) := by
 have hn : r ∉ Q := fun g => by rw [(h.met _ hrn).2 g] at hm; cases hm
 have hil := (List.getElem?_eq_some_iff.1 hv).1
 refine ⟨nodup_snoc h.nd hn, fun q hq => ?_, fun q hq => ?_, fun q hq => ?_, fun q hq hb => List.mem_append_left _ (h.fin q hq hb), fun j v' hj hv' r' hr' => ?_, fun v' hv' y r' hy hr' => ?_⟩
 ·rcases List.mem_append.1 hq with g | g
  ·exact h.lt q g
  ·simp only [List.mem_singleton] at g; omega
 ·by_cases e : q = r
  ·simp [e]
  ·simp [e, h.met q hq]
 ·rcases List.mem_append.1 hq with g | g
  ·exact h.use q g
  ·simp only [List.mem_singleton] at g
   subst g
   obtain ⟨y, h1, h2, -⟩ := (hB.mem v q).1 (List.mem_of_getElem? hr)
   obtain ⟨w, w1, w2⟩ := h.use v (List.mem_of_getElem? hv)
   refine ⟨y :: w, fun a ha => ?_, ?_⟩
   ·rcases List.mem_cons.1 ha with g | g
    ·omega
    ·exact w1 a g
   ·show accR bs nx (stepR nx q y) w = true
    rw [h2]; exact w2
 ·rw [List.getElem?_append_left (by omega)] at hv'
  exact List.mem_append_left _ (h.done j v' hj hv' r' hr')
 ·rw [List.getElem?_append_left hil, hv] at hv'
  injection hv' with hv'
  subst hv'
  by_cases e : y = x
  ·subst e
   rw [hr] at hr'
   injection hr' with hr'
   simp [hr']
  ·exact List.mem_append_left _ (h.row _ hv y r' (by omega) hr')
theorem UsI.next (h : UsI L n bs nx B Q M i x) {v : Nat} (hv : Q[i]? = some v) (hx : (B v).length ≤ x) : UsI L n bs nx B Q M (i + 1) 0 := ⟨h.nd, h.lt, h.met, h.use, h.fin, fun j v' hj hv' r hr => by
 by_cases e : j = i
 ·subst e
  rw [hv] at hv'
  injection hv' with hv'
  subst hv'
  obtain ⟨y, hy⟩ := List.getElem?_of_mem hr
  have := (List.getElem?_eq_some_iff.1 hy).1
  exact h.row _ hv y r (by omega) hy
 ·exact h.done j v' (by omega) hv' r hr, fun v' _ y r hy => by omega⟩
theorem UsI.end_ (hD : DfL L n s bs nx) (hB : BeI L n nx B n 0) (h : UsI L n bs nx B Q M Q.length 0) {q : Nat} (hq : q < n) : M q = true ↔ ∃ w, (∀ a ∈ w, a < L) ∧ accR bs nx q w = true := by
 rw [h.met q hq]
 refine ⟨h.use q, ?_⟩
 rintro ⟨w, hw, ha⟩
 induction w generalizing q with
 | nil => exact h.fin q hq (by simpa [accR, walkR] using ha)
 | cons a w ih =>
  have hal := hw a (by simp)
  have := ih (hD.rt.step hq hal).1 (fun b hb => hw b (by simp [hb])) ha
  obtain ⟨j, hj⟩ := List.getElem?_of_mem this
  exact h.done j _ (List.getElem?_eq_some_iff.1 hj).1 hj q ((hB.mem _ _).2 ⟨a, hal, rfl, .inl hq⟩)
end
set_option maxRecDepth 100000 in
set_option maxHeartbeats 16000000 in
theorem useful_fn {L n s : Nat} {bs : List Bool} {nx : List (List Int)} (h : DfL L n s bs nx) (hL : 1 ≤ L) (hL2 : L ≤ 6) (hn : n ≤ 512) : ∃ res, (∃ us : List Bool, us.length = n ∧ (∀ q, q < n → (us.getD q false = true ↔ ∃ w, (∀ a ∈ w, a < L) ∧ accR bs nx q w = true)) ∧ res = .t 2 (bools us)) ∧ FnS Tryd.prog 47 [dfT 0 L s bs nx] [] res [] := by
 have hnl := h.nl
 have hbl := h.bl
 have hml := mul_le3 hn hL2
 refine fn_introE Tryd.func47 rfl (by simp [Tryd.f47]) ?_
 rw [show Tryd.f47.ntmps = 98 from rfl, show Tryd.f47.results = #[.tmp 2] from rfl]
 refine awp_seqR fun K hK => ?_
 simp (disch := omega) [ints, rows, scal, wr64, wr8, dfT, bools]
 (repeat' first | apply hK | apply And.intro) <;> try first | (show okH _ _ _ = true; kernel_rfl) | omega | rfl | (simp <;> omega)
 refine awp_seqR fun K hK => ?_
 simp (disch := omega) [ints, rows, scal, wr64, wr8, hnl]
 (repeat' first | apply hK | apply And.intro) <;> try first | (show okH _ _ _ = true; kernel_rfl) | omega | rfl | (simp <;> omega)
 refine awp_seq ?_
 refine awp_seqR fun K hK => ?_
 simp (disch := omega) [ints, rows, scal, wr64, wr8, hnl]
 (repeat' first | apply hK | apply And.intro) <;> try first | (show okH _ _ _ = true; kernel_rfl) | omega | rfl | (simp <;> omega)
 refine awp_block ?_
 refine awp_loop (fun y : Nat × (Nat → List Nat) => mkF [(1, .ptr 0 0 4), (3, .own 1 n), (20, .t 0 (rows nx)), (21, .t 2 (.int .i64 n)), (22, .t 2 (.int .i64 y.1))]
   [(0, dfO L s bs nx), (1, .vec 22 1 2 (tab n fun j => .own (100 + j) (y.2 j).length))] 100 n (fun j => .row 3 1 2 (natsT (y.2 j))) 1000 98 [.any])
  (fun y => y.1 ≤ n ∧ BeI L n nx y.2 y.1 0) (fun y => n - y.1) ?_ ?_
 ·refine ⟨(0, fun _ => []), ⟨by simp, BeI.start⟩, ?_⟩
  refine wk_fam0 [(0, some 0), (1, some 5000000)] rfl ?_ ?_ ?_ ?_ ?_
  all_goals try simp +contextual (disch := omega) [beq_gt, beq_lt, eq_lt, eq_gt, lt_t, List.getElem?_cons_succ, Option.getD_some, callF, ints, scal, tpO, wkPs_snoc, wkPs_tab, rows, bools, dfT, dfO, hnl, natsT, rep_tab, tab_map, famM0]
  all_goals (try omega)
 rintro ⟨q, B⟩ ⟨hq, hB⟩
 simp only at hq hB
 refine awp_seqR fun K hK => ?_
 simp (disch := omega) [ints, rows, scal, wr64, wr8]
 (repeat' first | apply hK | apply And.intro) <;> try first | (show okH _ _ _ = true; kernel_rfl) | omega | rfl | (simp <;> omega)
 refine awp_seq ?_
 by_cases hqn : q < n
 ·have hqx : q < nx.length := by omega
  obtain ⟨hrl, -⟩ := h.row nx[q] (by simp)
  refine awp_cond (b := true) (p := 2) (by simp [scal, hqn] <;> omega) ?_
  refine awp_skip ?_
  show awp _ _ _ _
  refine awp_seq ?_
  refine awp_block ?_
  refine awp_seqR fun K hK => ?_
  simp (disch := omega) [ints, rows, scal, wr64, wr8, rows, hqx]
  (repeat' first | apply hK | apply And.intro) <;> try first | (show okH _ _ _ = true; kernel_rfl) | omega | rfl | (simp <;> omega)
  refine awp_seqR fun K hK => ?_
  simp (disch := omega) [ints, rows, scal, wr64, wr8, hrl]
  (repeat' first | apply hK | apply And.intro) <;> try first | (show okH _ _ _ = true; kernel_rfl) | omega | rfl | (simp <;> omega)
  refine awp_block ?_
  refine awp_loop (fun y : Nat × (Nat → List Nat) => mkF [(1, .ptr 0 0 4), (3, .own 1 n), (4, .t 2 (.int .i64 q)), (20, .t 0 (rows nx)), (21, .t 2 (.int .i64 n)), (22, .t 2 (.int .i64 q)), (27, .t 0 (ints nx[q])), (28, .t 2 (.int .i64 L)), (29, .t 2 (.int .i64 y.1))]
    [(0, dfO L s bs nx), (1, .vec 22 1 2 (tab n fun j => .own (100 + j) (y.2 j).length))] 100 n (fun j => .row 3 1 2 (natsT (y.2 j))) 1000 98 [.any])
   (fun y => y.1 ≤ L ∧ BeI L n nx y.2 q y.1) (fun y => L - y.1) ?_ ?_
  ·refine ⟨(0, B), ⟨by simp, hB⟩, ?_⟩
   refine wk_fam [(0, some 0), (1, some 1)] (fun j => 100 + j) rfl ?_ ?_ ?_ ?_ ?_ ?_
   all_goals try simp +contextual (disch := omega) [beq_gt, beq_lt, eq_lt, eq_gt, lt_t, List.getElem?_cons_succ, Option.getD_some, callF, ints, scal, tpO, wkPs_snoc, wkPs_tab, rows, dfO]
   all_goals (try omega)
  clear hB
  rintro ⟨x, B⟩ ⟨hx, hB⟩
  simp only at hx hB
  refine awp_seqR fun K hK => ?_
  simp (disch := omega) [ints, rows, scal, wr64, wr8]
  (repeat' first | apply hK | apply And.intro) <;> try first | (show okH _ _ _ = true; kernel_rfl) | omega | rfl | (simp <;> omega)
  refine awp_seq ?_
  by_cases hxl : x < L
  ·obtain ⟨s1, s2, s3, s4⟩ := h.rt.step hqn hxl
   have hlen := hB.len (stepR nx q x)
   have hqL : q * L ≤ 512 * 6 := Nat.mul_le_mul (by omega) hL2
   refine awp_cond (b := true) (p := 2) (by simp [scal, hxl] <;> omega) ?_
   refine awp_skip ?_
   show awp _ _ _ _
   refine awp_seq ?_
   refine awp_block ?_
   refine awp_seqR fun K hK => ?_
   simp (disch := omega) [ints, rows, scal, wr64, wr8, s3, s4]
   (repeat' first | apply hK | apply And.intro) <;> try first | (show okH _ _ _ = true; kernel_rfl) | omega | rfl | (simp <;> omega)
   refine awp_R fun K hK => ?_
   simp (disch := omega) [ints, rows, scal, wr64, wr8, s1, tab_set, beq_lt, beq_gt]
   (repeat' first | apply hK | apply And.intro) <;> try first | (show okH _ _ _ = true; kernel_rfl) | omega | rfl | (simp <;> omega)
   show awp _ _ _ _
   refine awp_R fun K hK => ?_
   simp (disch := omega) [ints, rows, scal, wr64, wr8]
   (repeat' first | apply hK | apply And.intro) <;> try first | (show okH _ _ _ = true; kernel_rfl) | omega | rfl | (simp <;> omega)
   refine ⟨(x + 1, fun j => if j = stepR nx q x then B j ++ [q] else B j), ⟨by simp only; omega, hB.add hxl⟩, by simp only; omega, ?_⟩
   refine wk_fam [(0, some 0), (1, some 1)] (fun j => 100 + j) rfl ?_ ?_ ?_ ?_ ?_ ?_
   all_goals try simp +contextual (disch := omega) [beq_gt, beq_lt, eq_lt, eq_gt, lt_t, List.getElem?_cons_succ, Option.getD_some, callF, ints, scal, tpO, wkPs_snoc, wkPs_tab, rows, dfO]
   all_goals (try omega)
   ·intro j hj
    by_cases e : j = stepR nx q x
    ·subst e
     simp +contextual (disch := omega) [beq_gt, beq_lt, eq_lt, eq_gt, lt_t, List.getElem?_cons_succ, Option.getD_some, callF, ints, scal, tpO, wkPs_snoc, wkPs_tab]
    ·simp +contextual (disch := omega) [beq_gt, beq_lt, eq_lt, eq_gt, lt_t, List.getElem?_cons_succ, Option.getD_some, callF, ints, scal, tpO, wkPs_snoc, wkPs_tab, e]
   ·intro j hj
    by_cases e : j = stepR nx q x
    ·subst e
     simp +contextual (disch := omega) [beq_gt, beq_lt, eq_lt, eq_gt, lt_t, List.getElem?_cons_succ, Option.getD_some, callF, ints, scal, tpO, wkPs_snoc, wkPs_tab, natsT]
    ·simp +contextual (disch := omega) [beq_gt, beq_lt, eq_lt, eq_gt, lt_t, List.getElem?_cons_succ, Option.getD_some, callF, ints, scal, tpO, wkPs_snoc, wkPs_tab, e, beq_ne (show 100 + j ≠ 100 + stepR nx q x by omega)]
  ·obtain rfl : x = L := by omega
   refine awp_cond (b := false) (p := 2) (by simp [scal] <;> omega) ?_
   refine awp_exit ?_
   show awp _ _ _ _
   refine awp_R fun K hK => ?_
   simp (disch := omega) [ints, rows, scal, wr64, wr8]
   (repeat' first | apply hK | apply And.intro) <;> try first | (show okH _ _ _ = true; kernel_rfl) | omega | rfl | (simp <;> omega)
   refine ⟨(q + 1, B), ⟨by simp only; omega, hB.next⟩, by simp only; omega, ?_⟩
   refine wk_fam [(0, some 0), (1, some 1)] (fun j => 100 + j) rfl ?_ ?_ ?_ ?_ ?_ ?_
   all_goals try simp +contextual (disch := omega) [beq_gt, beq_lt, eq_lt, eq_gt, lt_t, List.getElem?_cons_succ, Option.getD_some, callF, ints, scal, tpO, wkPs_snoc, wkPs_tab, rows, dfO]
   all_goals (try omega)
 ·obtain rfl : q = n := by omega
  refine awp_cond (b := false) (p := 2) (by simp [scal] <;> omega) ?_
  refine awp_exit ?_
  show awp _ _ _ _
  refine awp_seqR fun K hK => ?_
  simp (disch := omega) [ints, rows, scal, wr64, wr8, hnl]
  (repeat' first | apply hK | apply And.intro) <;> try first | (show okH _ _ _ = true; kernel_rfl) | omega | rfl | (simp <;> omega)
  refine awp_seqR fun K hK => ?_
  simp (disch := omega) [ints, rows, scal, wr64, wr8]
  (repeat' first | apply hK | apply And.intro) <;> try first | (show okH _ _ _ = true; kernel_rfl) | omega | rfl | (simp <;> omega)
  refine awp_seq ?_
  refine awp_seqR fun K hK => ?_
  simp (disch := omega) [ints, rows, scal, wr64, wr8, hbl]
  (repeat' first | apply hK | apply And.intro) <;> try first | (show okH _ _ _ = true; kernel_rfl) | omega | rfl | (simp <;> omega)
  refine awp_block ?_
  refine awp_loop (fun y : Nat × List Nat × (Nat → Bool) => mkS [(3, .own 1 q), (8, .own 2 q), (9, .own 3 y.2.1.length), (50, .t 0 (bools bs)), (51, .t 2 (.int .i64 q)), (52, .t 2 (.int .i64 y.1))]
    [(1, .row 22 1 2 (tab q fun p => .sl 1 (natsT (B p)))), (2, .row 4 1 2 (metT q y.2.2)), (3, .row 3 1 2 (natsT y.2.1))] 4 98 [.any])
   (fun y => y.1 ≤ q ∧ UsB q bs y.2.1 y.2.2 y.1) (fun y => q - y.1) ?_ ?_
  ·refine ⟨(0, [], fun _ => false), ⟨by simp, UsB.start⟩, ?_⟩
   refine wk_list [(1, some 1), (2, some 4001000), (3, none)] rfl ?_ ?_ ?_ ?_
   all_goals try simp [ints, rows, bools, dfO, metT_zero, natsT, wkT_tab, wk1, hbl, hnl]
   intro j hj
   simp +contextual (disch := omega) [beq_gt, beq_lt, eq_lt, eq_gt, lt_t, List.getElem?_cons_succ, Option.getD_some, callF, ints, scal, tpO, wkPs_snoc, wkPs_tab, beq_ne (show 100 + j ≠ 4001000 by omega)]
  rintro ⟨k, Q, M⟩ ⟨hk, hU⟩
  simp only at hk hU
  have hle := hU.le hk
  refine awp_seqR fun K hK => ?_
  simp (disch := omega) [ints, rows, scal, wr64, wr8]
  (repeat' first | apply hK | apply And.intro) <;> try first | (show okH _ _ _ = true; kernel_rfl) | omega | rfl | (simp <;> omega)
  refine awp_seq ?_
  by_cases hkq : k < q
  ·have hkb : k < bs.length := by omega
   have hbg : bs.getD k false = bs[k] := by rw [List.getD_eq_getElem?_getD, List.getElem?_eq_getElem hkb]; rfl
   refine awp_cond (b := true) (p := 2) (by simp [scal, hkq] <;> omega) ?_
   refine awp_skip ?_
   show awp _ _ _ _
   refine awp_seq ?_
   refine awp_block ?_
   refine awp_seqR fun K hK => ?_
   simp (disch := omega) [ints, rows, scal, wr64, wr8, bools, hkb]
   (repeat' first | apply hK | apply And.intro) <;> try first | (show okH _ _ _ = true; kernel_rfl) | omega | rfl | (simp <;> omega)
   refine awp_seqR fun K hK => ?_
   simp (disch := omega) [ints, rows, scal, wr64, wr8]
   (repeat' first | apply hK | apply And.intro) <;> try first | (show okH _ _ _ = true; kernel_rfl) | omega | rfl | (simp <;> omega)
   cases hb : bs[k] with
   | true =>
    refine awp_cond (b := true) (p := 2) (by simp [scal, hb] <;> omega) ?_
    refine awp_seqR fun K hK => ?_
    simp (disch := omega) [ints, rows, scal, wr64, wr8, hkq, metT_set]
    (repeat' first | apply hK | apply And.intro) <;> try first | (show okH _ _ _ = true; kernel_rfl) | omega | rfl | (simp <;> omega)
    refine awp_R fun K hK => ?_
    simp (disch := omega) [ints, rows, scal, wr64, wr8]
    (repeat' first | apply hK | apply And.intro) <;> try first | (show okH _ _ _ = true; kernel_rfl) | omega | rfl | (simp <;> omega)
    show awp _ _ _ _
    refine awp_R fun K hK => ?_
    simp (disch := omega) [ints, rows, scal, wr64, wr8]
    (repeat' first | apply hK | apply And.intro) <;> try first | (show okH _ _ _ = true; kernel_rfl) | omega | rfl | (simp <;> omega)
    refine ⟨(k + 1, Q ++ [k], fun j => if j = k then true else M j), ⟨by simp only; omega, hU.add (hbg.trans hb)⟩, by simp only; omega, ?_⟩
    refine wk_list [(1, some 1), (2, some 2), (3, some 3)] rfl ?_ ?_ ?_ ?_
    all_goals try simp [ints, rows, bools, natsT]
   | false =>
    refine awp_cond (b := false) (p := 2) (by simp [scal, hb] <;> omega) ?_
    refine awp_skip ?_
    show awp _ _ _ _
    refine awp_R fun K hK => ?_
    simp (disch := omega) [ints, rows, scal, wr64, wr8]
    (repeat' first | apply hK | apply And.intro) <;> try first | (show okH _ _ _ = true; kernel_rfl) | omega | rfl | (simp <;> omega)
    refine ⟨(k + 1, Q, M), ⟨by simp only; omega, hU.old (hbg.trans hb)⟩, by simp only; omega, ?_⟩
    refine wk_list [(1, some 1), (2, some 2), (3, some 3)] rfl ?_ ?_ ?_ ?_
    all_goals try simp [ints, rows, bools]
  ·obtain rfl : k = q := by omega
   have hU2 := hU.next (L := L) (nx := nx) (B := B)
   clear hU
   refine awp_cond (b := false) (p := 2) (by simp [scal] <;> omega) ?_
   refine awp_exit ?_
   show awp _ _ _ _
   refine awp_seq ?_
   refine awp_seqR fun K hK => ?_
   simp (disch := omega) [ints, rows, scal, wr64, wr8]
   (repeat' first | apply hK | apply And.intro) <;> try first | (show okH _ _ _ = true; kernel_rfl) | omega | rfl | (simp <;> omega)
   refine awp_block ?_
   refine awp_loop (fun y : Nat × List Nat × (Nat → Bool) => mkS [(3, .own 1 k), (8, .own 2 k), (9, .own 3 y.2.1.length), (12, .t 2 (.int .i64 y.1))]
     [(1, .row 22 1 2 (tab k fun p => .sl 1 (natsT (B p)))), (2, .row 4 1 2 (metT k y.2.2)), (3, .row 3 1 2 (natsT y.2.1))] 4 98 [.any])
    (fun y => y.1 ≤ y.2.1.length ∧ UsI L k bs nx B y.2.1 y.2.2 y.1 0) (fun y => k - y.1) ?_ ?_
   ·refine ⟨(0, Q, M), ⟨by simp, hU2⟩, ?_⟩
    refine wk_list [(1, some 1), (2, some 2), (3, some 3)] rfl ?_ ?_ ?_ ?_
    all_goals try simp [ints, rows, bools]
   clear hU2 hle
   rintro ⟨i, Q, M⟩ ⟨hi, hU⟩
   simp only at hi hU
   have hle := hU.le
   refine awp_seq ?_
   refine awp_seqR fun K hK => ?_
   simp (disch := omega) [ints, rows, scal, wr64, wr8]
   (repeat' first | apply hK | apply And.intro) <;> try first | (show okH _ _ _ = true; kernel_rfl) | omega | rfl | (simp <;> omega)
   by_cases hil : i < Q.length
   ·obtain ⟨v, hv⟩ : ∃ v, Q[i]? = some v := ⟨_, List.getElem?_eq_getElem hil⟩
    have hvm := hU.lt v (List.mem_of_getElem? hv)
    have hve : Q[i] = v := (List.getElem?_eq_some_iff.1 hv).2
    have hbv := hB.len v
    refine awp_cond (b := true) (p := 2) (by simp [scal, hil] <;> omega) ?_
    refine awp_skip ?_
    show awp _ _ _ _
    refine awp_seq ?_
    refine awp_block ?_
    refine awp_seqR fun K hK => ?_
    simp (disch := omega) [ints, rows, scal, wr64, wr8, natsT, hil, hve, hvm]
    (repeat' first | apply hK | apply And.intro) <;> try first | (show okH _ _ _ = true; kernel_rfl) | omega | rfl | (simp <;> omega)
    refine awp_block ?_
    refine awp_loop (fun y : Nat × List Nat × (Nat → Bool) => mkS [(3, .own 1 k), (8, .own 2 k), (9, .own 3 y.2.1.length), (12, .t 2 (.int .i64 i)), (78, .t 2 (.sl 1 (natsT (B v)))), (79, .t 2 (.int .i64 (B v).length)), (80, .t 2 (.int .i64 y.1))]
      [(1, .row 22 1 2 (tab k fun p => .sl 1 (natsT (B p)))), (2, .row 4 1 2 (metT k y.2.2)), (3, .row 3 1 2 (natsT y.2.1))] 4 98 [.any])
     (fun y => y.1 ≤ (B v).length ∧ y.2.1[i]? = some v ∧ UsI L k bs nx B y.2.1 y.2.2 i y.1) (fun y => (B v).length - y.1) ?_ ?_
    ·refine ⟨(0, Q, M), ⟨by simp, hv, hU⟩, ?_⟩
     refine wk_list [(1, some 1), (2, some 2), (3, some 3)] rfl ?_ ?_ ?_ ?_
     all_goals try simp [ints, rows, bools, natsT]
    clear hU hv hve hi hle hil
    rintro ⟨x, Q, M⟩ ⟨hx, hv, hU⟩
    simp only at hx hv hU
    have hle := hU.le
    have hil := (List.getElem?_eq_some_iff.1 hv).1
    refine awp_seqR fun K hK => ?_
    simp (disch := omega) [ints, rows, scal, wr64, wr8]
    (repeat' first | apply hK | apply And.intro) <;> try first | (show okH _ _ _ = true; kernel_rfl) | omega | rfl | (simp <;> omega)
    refine awp_seq ?_
    by_cases hxl : x < (B v).length
    ·obtain ⟨r, hr⟩ : ∃ r, (B v)[x]? = some r := ⟨_, List.getElem?_eq_getElem hxl⟩
     have hrg := natsT_at hr
     have hrn : r < k := by
      obtain ⟨y, y1, y2, y3⟩ := (hB.mem v r).1 (List.mem_of_getElem? hr)
      omega
     have hg := metT_at (met := M) hrn
     refine awp_cond (b := true) (p := 2) (by simp [scal, hxl] <;> omega) ?_
     refine awp_skip ?_
     show awp _ _ _ _
     refine awp_seq ?_
     refine awp_block ?_
     refine awp_seqR fun K hK => ?_
     simp (disch := omega) [ints, rows, scal, wr64, wr8, hrg]
     (repeat' first | apply hK | apply And.intro) <;> try first | (show okH _ _ _ = true; kernel_rfl) | omega | rfl | (simp <;> omega)
     cases hm : M r with
     | true =>
      rw [hm] at hg
      refine awp_seqR fun K hK => ?_
      simp (disch := omega) [ints, rows, scal, wr64, wr8, hg, hrn]
      (repeat' first | apply hK | apply And.intro) <;> try first | (show okH _ _ _ = true; kernel_rfl) | omega | rfl | (simp <;> omega)
      refine awp_cond (b := false) (p := 2) (by simp [scal] <;> omega) ?_
      refine awp_skip ?_
      show awp _ _ _ _
      refine awp_R fun K hK => ?_
      simp (disch := omega) [ints, rows, scal, wr64, wr8]
      (repeat' first | apply hK | apply And.intro) <;> try first | (show okH _ _ _ = true; kernel_rfl) | omega | rfl | (simp <;> omega)
      refine ⟨(x + 1, Q, M), ⟨by simp only; omega, hv, hU.old hv hr hrn hm⟩, by simp only; omega, ?_⟩
      refine wk_list [(1, some 1), (2, some 2), (3, some 3)] rfl ?_ ?_ ?_ ?_
      all_goals try simp [ints, rows, bools]
     | false =>
      rw [hm] at hg
      refine awp_seqR fun K hK => ?_
      simp (disch := omega) [ints, rows, scal, wr64, wr8, hg, hrn]
      (repeat' first | apply hK | apply And.intro) <;> try first | (show okH _ _ _ = true; kernel_rfl) | omega | rfl | (simp <;> omega)
      refine awp_cond (b := true) (p := 2) (by simp [scal] <;> omega) ?_
      refine awp_seqR fun K hK => ?_
      simp (disch := omega) [ints, rows, scal, wr64, wr8, hrn, metT_set]
      (repeat' first | apply hK | apply And.intro) <;> try first | (show okH _ _ _ = true; kernel_rfl) | omega | rfl | (simp <;> omega)
      refine awp_R fun K hK => ?_
      simp (disch := omega) [ints, rows, scal, wr64, wr8]
      (repeat' first | apply hK | apply And.intro) <;> try first | (show okH _ _ _ = true; kernel_rfl) | omega | rfl | (simp <;> omega)
      show awp _ _ _ _
      refine awp_R fun K hK => ?_
      simp (disch := omega) [ints, rows, scal, wr64, wr8]
      (repeat' first | apply hK | apply And.intro) <;> try first | (show okH _ _ _ = true; kernel_rfl) | omega | rfl | (simp <;> omega)
      refine ⟨(x + 1, Q ++ [r], fun j => if j = r then true else M j), ⟨by simp only; omega, by simp only; rw [List.getElem?_append_left hil]; exact hv, hU.add hB hv hr hrn hm⟩, by simp only; omega, ?_⟩
      refine wk_list [(1, some 1), (2, some 2), (3, some 3)] rfl ?_ ?_ ?_ ?_
      all_goals try simp [ints, rows, bools, natsT]
    ·refine awp_cond (b := false) (p := 2) (by simp [scal, hxl] <;> omega) ?_
     refine awp_exit ?_
     show awp _ _ _ _
     refine awp_R fun K hK => ?_
     simp (disch := omega) [ints, rows, scal, wr64, wr8]
     (repeat' first | apply hK | apply And.intro) <;> try first | (show okH _ _ _ = true; kernel_rfl) | omega | rfl | (simp <;> omega)
     refine ⟨(i + 1, Q, M), ⟨by simp only; omega, hU.next hv (by omega)⟩, by simp only; omega, ?_⟩
     refine wk_list [(1, some 1), (2, some 2), (3, some 3)] rfl ?_ ?_ ?_ ?_
     all_goals try simp [ints, rows, bools]
   ·obtain rfl : i = Q.length := by omega
    refine awp_cond (b := false) (p := 2) (by simp [scal] <;> omega) ?_
    refine awp_exit ?_
    show awp _ _ _ _
    refine awp_seqR fun K hK => ?_
    simp (disch := omega) [ints, rows, scal, wr64, wr8]
    (repeat' first | apply hK | apply And.intro) <;> try first | (show okH _ _ _ = true; kernel_rfl) | omega | rfl | (simp <;> omega)
    refine awp_ret ?_
    refine ⟨_, ⟨tab k M, by simp, fun j hj => by rw [List.getD_eq_getElem?_getD, tab_get _ hj]; exact hU.end_ h hB hj, rfl⟩, ?_⟩
    refine ⟨⟨.inr rfl, _, [], rfl, trivial, trivial, by simp [dfT, bools, metT, tab_map], ?_⟩, by simp [dfT, bools, metT, tab_map]⟩
    simp [dfT, bools, metT, tab_map]
end Go.Proofs.YtnffigeofdagfaaDoor.M
