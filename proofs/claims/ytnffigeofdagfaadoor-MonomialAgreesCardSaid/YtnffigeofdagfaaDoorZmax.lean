/-
  Walk in my logic: minimal (monomial's machine).
-/
import Derived.Test.YtnffigeofdagfaaDoorZmat
import Derived.Test.YtnffigeofdagfaaDoorZmaw
namespace Go.Proofs.YtnffigeofdagfaaDoor.M
open Go.RowKit
set_option linter.unusedVariables false
set_option linter.unusedSimpArgs false

def fiC (c : Nat → Nat) (t : Nat) : Nat → Option Nat
 | 0 => none
 | s + 1 => match fiC c t s with
  | some i => some i
  | none => if c s = t then some s else none
theorem fiC_some {c : Nat → Nat} {t i : Nat} : ∀ {s : Nat}, fiC c t s = some i → i < s ∧ c i = t
 | 0, h => by simp [fiC] at h
 | s + 1, h => by
  unfold fiC at h
  cases hs : fiC c t s with
  | some j =>
   rw [hs] at h
   simp only [Option.some.injEq] at h
   subst h
   have := fiC_some hs
   exact ⟨by omega, this.2⟩
  | none =>
   rw [hs] at h
   simp only at h
   split at h
   ·rename_i e
    injection h with h
    subst h
    exact ⟨by omega, e⟩
   ·cases h
theorem fiC_none {c : Nat → Nat} {t : Nat} : ∀ {s : Nat}, fiC c t s = none → ∀ i, i < s → c i ≠ t
 | 0, _, i, hi => by omega
 | s + 1, h, i, hi => by
  unfold fiC at h
  cases hs : fiC c t s with
  | some j => rw [hs] at h; cases h
  | none =>
   rw [hs] at h
   simp only at h
   split at h
   ·cases h
   ·rename_i e
    by_cases ei : i = s
    ·rw [ei]; exact e
    ·exact fiC_none hs i (by omega)
theorem fiC_hit {c : Nat → Nat} {s j : Nat} (h : fiC c (c s) s = some j) (t : Nat) : fiC c t (s + 1) = fiC c t s := by
 show (match fiC c t s with | some i => some i | none => if c s = t then some s else none) = _
 cases ht : fiC c t s with
 | some i => rfl
 | none =>
  simp only
  rw [if_neg]
  intro e
  rw [← e, h] at ht
  cases ht
theorem fiC_new {c : Nat → Nat} {s : Nat} (h : fiC c (c s) s = none) (t : Nat) : fiC c t (s + 1) = if t = c s then some s else fiC c t s := by
 show (match fiC c t s with | some i => some i | none => if c s = t then some s else none) = _
 by_cases e : t = c s
 ·subst e
  rw [h]
 ·rw [if_neg e]
  cases ht : fiC c t s with
  | some i => rfl
  | none =>
   simp only
   rw [if_neg (fun e2 => e e2.symm)]
def boF (fb : List Bool) (c : Nat → Nat) (s t : Nat) : T := match fiC c t s with
 | some i => .bool (fb.getD i false)
 | none => .bool false
def roF (L : Nat) (nx : List Nat) (c : Nat → Nat) (s t : Nat) : T := match fiC c t s with
 | some i => .sl 1 (rwN L fun a => c (nxN nx L i a))
 | none => .sl 0 []
def qBs (fb : List Bool) (c : Nat → Nat) (n k : Nat) : List Bool := tab k fun t => match fiC c t n with
 | some i => fb.getD i false
 | none => false
def qNx (L : Nat) (nx : List Nat) (c : Nat → Nat) (n k : Nat) : List (List Int) := tab k fun t => match fiC c t n with
 | some i => tab L fun a => (c (nxN nx L i a) : Int)
 | none => []
@[simp] theorem qBs_len (fb : List Bool) (c : Nat → Nat) (n k : Nat) : (qBs fb c n k).length = k := by simp [qBs]
@[simp] theorem qNx_len (L : Nat) (nx : List Nat) (c : Nat → Nat) (n k : Nat) : (qNx L nx c n k).length = k := by simp [qNx]
theorem qBs_row (fb : List Bool) (c : Nat → Nat) (n k : Nat) : tab k (boF fb c n) = (qBs fb c n k).map .bool := by
 rw [qBs, tab_map]
 refine tab_congr fun t ht => ?_
 unfold boF
 cases fiC c t n <;> rfl
theorem Part.fi {n k : Nat} {c : Nat → Nat} (h : Part n c k) {t : Nat} (ht : t < k) : ∃ i, fiC c t n = some i ∧ i < n ∧ c i = t := by
 cases hf : fiC c t n with
 | some i => exact ⟨i, rfl, (fiC_some hf).1, (fiC_some hf).2⟩
 | none =>
  obtain ⟨i, h1, h2⟩ := h.sur t ht
  exact absurd h2 (fiC_none hf i h1)
theorem qNx_row {L n k : Nat} {nx : List Nat} {c : Nat → Nat} (h : Part n c k) : tab k (roF L nx c n) = (qNx L nx c n k).map ints := by
 rw [qNx, tab_map]
 refine tab_congr fun t ht => ?_
 obtain ⟨i, h1, -⟩ := h.fi ht
 simp only [roF, h1]
 exact rwN_ints L fun a => c (nxN nx L i a)
theorem q_df {L n k : Nat} {nx : List Nat} {fb : List Bool} {c : Nat → Nat} (hM : McI L n nx fb) (h : Part n c k) {i : Nat} (hi : i < n) : DfL L k (c i) (qBs fb c n k) (qNx L nx c n k) := by
 have hci := h.lt i hi
 refine ⟨by omega, hci, by simp [qBs], by simp [qNx], fun r hr => ?_⟩
 simp only [qNx, tab, List.mem_map, List.mem_range] at hr
 obtain ⟨t, ht, rfl⟩ := hr
 obtain ⟨j, h1, h2, h3⟩ := h.fi ht
 rw [h1]
 simp only
 refine ⟨by simp, fun v hv => ?_⟩
 simp only [List.mem_map, List.mem_range] at hv
 obtain ⟨a, ha, rfl⟩ := hv
 have := h.lt _ (hM.lt a j ha h2)
 have e : nxN nx L j a = nx.getD (j * L + a) 0 := rfl
 rw [e]
 omega
theorem q_lang {L n k : Nat} {nx : List Nat} {fb : List Bool} {c : Nat → Nat} (hM : McI L n nx fb) (h : ClI nx fb L n c k) (hc : Cong nx L n c L) : ∀ (w : List Nat), (∀ a ∈ w, a < L) → ∀ i, i < n → accR (qBs fb c n k) (qNx L nx c n k) (c i) w = accN nx fb L i w
 | [], _, i, hi => by
  obtain ⟨j, h1, h2, h3⟩ := h.part.fi (h.part.lt i hi)
  have e : (qBs fb c n k)[c i]? = some (fb.getD j false) := by
   rw [qBs, tab_get _ (h.part.lt i hi), h1]
  show (qBs fb c n k).getD (c i) false = fb.getD i false
  rw [List.getD_eq_getElem?_getD, e]
  exact h.fin j i h2 hi h3
 | a :: w, hw, i, hi => by
  have ha := hw a (by simp)
  obtain ⟨j, h1, h2, h3⟩ := h.part.fi (h.part.lt i hi)
  have e : stepR (qNx L nx c n k) (c i) a = c (nx.getD (i * L + a) 0) := by
   rw [stepR_at (r := tab L fun a => (c (nxN nx L j a) : Int)) (t := c (nxN nx L j a)) (by rw [qNx, tab_get _ (h.part.lt i hi), h1]) (tab_get _ ha)]
   exact hc a ha j i h2 hi h3
  show accR (qBs fb c n k) (qNx L nx c n k) (stepR (qNx L nx c n k) (c i) a) w = accN nx fb L (nx.getD (i * L + a) 0) w
  rw [e]
  exact q_lang hM h hc w (fun b hb => hw b (by simp [hb])) _ (hM.lt a i ha hi)
set_option maxRecDepth 100000 in
set_option maxHeartbeats 16000000 in
theorem mcminimal_fn {L n : Nat} {nx : List Nat} {fb : List Bool} (h : McI L n nx fb) (hfew : ∀ c k, ClI nx fb L n c k → k ≤ 512) : ∃ res, (∃ m bs' nx', m ≤ 512 ∧ DfL L m 0 bs' nx' ∧ (∀ w, (∀ a ∈ w, a < L) → accR bs' nx' 0 w = accN nx fb L 0 w) ∧ res = .tup [dfT 2 L 0 bs' nx', .t 2 (.bool true)]) ∧ FnS Tryd.prog 36 [.pt 0 (mcT L nx fb)] [] res [] := by
 obtain ⟨_, ⟨c, k, hC, hcong, rfl⟩, hcls⟩ := mclasses_fn h
 have hk := hfew c k hC
 have hcg := hcong hk
 have hki : ¬ (512 : Int) < (k : Int) := by omega
 have hn1 := h.n1
 have hn4 := h.n4
 have hl1 := h.l1
 have hl2 := h.l2
 have hfl := h.fl
 have hD := q_df h hC.part (i := 0) hn1
 obtain ⟨_, ⟨m, bs', nx', ⟨hmk, hDm, hlang⟩, rfl⟩, hmin⟩ := mzMinimal_fn hD hl1 hl2 hk
 have hlang2 : ∀ w, (∀ a ∈ w, a < L) → accR bs' nx' 0 w = accN nx fb L 0 w := fun w hw => by
  rw [hlang w hw, q_lang h hC hcg w hw 0 hn1]
 have hg0 := rwN_at (c := c) hn1
 refine fn_introE Tryd.func36 rfl (by simp [Tryd.f36]) ?_
 rw [show Tryd.f36.ntmps = 98 from rfl, show Tryd.f36.results = #[.cell 2 32, .tmp 3] from rfl]
 refine awp_seqR fun K hK => ?_
 simp (maxSteps := 2000000) (disch := omega) [ints, rows, scal, wr64, wr8]
 (repeat' first | apply hK | apply And.intro) <;> try first | (show okH _ _ _ = true; kernel_rfl) | omega | rfl | (simp <;> omega)
 refine awp_seqR fun K hK => ?_
 simp (maxSteps := 2000000) (disch := omega) [ints, rows, scal, wr64, wr8]
 (repeat' apply And.intro)
 all_goals (try omega)
 refine call_rule (caps := []) (hcls) [] [] 2 rfl rfl rfl rfl (by kernel_rfl) (by simp) ?_ trivial trivial rfl trivial trivial (by simp) ?_
 ·simp [scal, rows, ints]
 simp (maxSteps := 2000000) (disch := omega) [ints, rows, scal, wr64, wr8]
 (repeat' first | apply hK | apply And.intro) <;> try first | (show okH _ _ _ = true; kernel_rfl) | omega | rfl | (simp <;> omega)
 refine awp_seq ?_
 refine awp_seqR fun K hK => ?_
 simp (maxSteps := 2000000) (disch := omega) [ints, rows, scal, wr64, wr8, hki]
 (repeat' first | apply hK | apply And.intro) <;> try first | (show okH _ _ _ = true; kernel_rfl) | omega | rfl | (simp <;> omega)
 refine awp_cond (b := false) (p := 2) (by simp [scal] <;> omega) ?_
 refine awp_skip ?_
 show awp _ _ _ _
 refine awp_seqD (by kernel_rfl) (fun K hK => ?_)
 simp (maxSteps := 2000000) (disch := omega) [ints, rows, scal, wr64, wr8, mcT, hg0]
 (repeat' first | apply hK | apply And.intro) <;> try first | (show chkD _ _ = true; kernel_rfl) | (show okH _ _ _ = true; kernel_rfl) | omega | rfl | (simp <;> omega)
 refine awp_seq ?_
 refine awp_seqR fun K hK => ?_
 simp (maxSteps := 2000000) (disch := omega) [ints, rows, scal, wr64, wr8]
 (repeat' first | apply hK | apply And.intro) <;> try first | (show okH _ _ _ = true; kernel_rfl) | omega | rfl | (simp <;> omega)
 refine awp_block ?_
 refine awp_loop (fun s : Nat => mkS [(0, .pt 0 (mcT L nx fb)), (2, .ptr 0 0 4), (4, .t 2 (.sl 1 (rwN n c))), (6, .ptr 1 0 4), (30, .t 2 (.sl 1 (rwN n c))), (31, .t 2 (.int .i64 n)), (32, .t 2 (.int .i64 s))] [(0, .box 32 [.any, .any, .any, .any]), (1, .box 32 [.t 2 (.int .i64 L), .t 2 (.int .i64 (c 0 : Nat)), .own 2 k, .own 3 k]), (2, .row 4 1 2 (tab k (boF fb c s))), (3, .row 22 1 2 (tab k (roF L nx c s)))] 4 98 [.any]) (fun s => s ≤ n) (fun s => n - s) ?_ ?_
 ·refine ⟨0, by omega, ?_⟩
  have e1 : tab k (boF fb c 0) = tab k fun _ => T.bool false := tab_congr fun t _ => rfl
  have e2 : tab k (roF L nx c 0) = tab k fun _ => T.sl 0 [] := tab_congr fun t _ => rfl
  refine wk_list [(0, some 0), (1, some 23000000), (2, some 19000000), (3, some 21000000)] rfl ?_ ?_ ?_ ?_
  all_goals try simp [ints, mcT, bools, rep_tab, e1, e2]
 intro s hs
 refine awp_seqR fun K hK => ?_
 simp (maxSteps := 2000000) (disch := omega) [ints, rows, scal, wr64, wr8]
 (repeat' first | apply hK | apply And.intro) <;> try first | (show okH _ _ _ = true; kernel_rfl) | omega | rfl | (simp <;> omega)
 refine awp_seq ?_
 by_cases hsn : s < n
 ·refine awp_cond (b := true) (p := 2) (by simp [scal, hsn] <;> omega) ?_
  have hg := rwN_at (c := c) hsn
  have hck := hC.part.lt s hsn
  have hrg : (tab k (roF L nx c s))[c s]? = some (roF L nx c s (c s)) := tab_get _ hck
  refine awp_skip ?_
  show awp _ _ _ _
  refine awp_seq ?_
  refine awp_block ?_
  refine awp_seqR fun K hK => ?_
  simp (maxSteps := 2000000) (disch := omega) [ints, rows, scal, wr64, wr8, hg]
  (repeat' first | apply hK | apply And.intro) <;> try first | (show okH _ _ _ = true; kernel_rfl) | omega | rfl | (simp <;> omega)
  refine awp_seq ?_
  cases hf : fiC c (c s) s with
  | some j =>
   have hro : roF L nx c s (c s) = .sl 1 (rwN L fun a => c (nxN nx L j a)) := by simp [roF, hf]
   have hh := fiC_hit hf
   have e1 : tab k (boF fb c (s + 1)) = tab k (boF fb c s) := tab_congr fun t _ => by simp only [boF, hh t]
   have e2 : tab k (roF L nx c (s + 1)) = tab k (roF L nx c s) := tab_congr fun t _ => by simp only [roF, hh t]
   rw [hro] at hrg
   have hsl : slB Tryd.prog 22 = true := by kernel_rfl
   refine awp_seqR fun K hK => ?_
   simp (maxSteps := 2000000) (disch := omega) [ints, rows, scal, wr64, wr8, hrg, hsl]
   (repeat' first | apply hK | apply And.intro) <;> try first | (show okH _ _ _ = true; kernel_rfl) | omega | rfl | (simp <;> omega)
   refine awp_cond (b := true) (p := 2) (by simp [scal] <;> omega) ?_
   refine awp_exit ?_
   show awp _ _ _ _
   refine awp_R fun K hK => ?_
   simp (maxSteps := 2000000) (disch := omega) [ints, rows, scal, wr64, wr8]
   (repeat' first | apply hK | apply And.intro) <;> try first | (show okH _ _ _ = true; kernel_rfl) | omega | rfl | (simp <;> omega)
   refine ⟨s + 1, by omega, by omega, ?_⟩
   refine wk_list [(0, some 0), (1, some 1), (2, some 2), (3, some 3)] rfl ?_ ?_ ?_ ?_
   all_goals try simp [ints, mcT, bools, e1, e2]
  | none =>
   have hro : roF L nx c s (c s) = .sl 0 [] := by simp [roF, hf]
   have hh := fiC_new hf
   have hsl : slB Tryd.prog 22 = true := by kernel_rfl
   have hsb : s < fb.length := by omega
   have hfbs : fb.getD s false = fb[s] := by simp [List.getD_eq_getElem?_getD, hsb]
   have hbo : (tab k (boF fb c s)).set (c s) (.bool fb[s]) = tab k (boF fb c (s + 1)) := by
    rw [tab_set]
    refine tab_congr fun t _ => ?_
    by_cases e : t = c s
    ·simp only [boF, hh t, if_pos e, hfbs]
    ·simp only [boF, hh t, if_neg e]
   have hro1 : ∀ t, t ≠ c s → roF L nx c (s + 1) t = roF L nx c s t := fun t e => by simp only [roF, hh t, if_neg e]
   have hro2 : roF L nx c (s + 1) (c s) = .sl 1 (rwN L fun a => c (nxN nx L s a)) := by simp [roF, hh]
   rw [hro] at hrg
   refine awp_seqR fun K hK => ?_
   simp (maxSteps := 2000000) (disch := omega) [ints, rows, scal, wr64, wr8, hrg, hsl]
   (repeat' first | apply hK | apply And.intro) <;> try first | (show okH _ _ _ = true; kernel_rfl) | omega | rfl | (simp <;> omega)
   refine awp_cond (b := false) (p := 2) (by simp [scal] <;> omega) ?_
   refine awp_skip ?_
   show awp _ _ _ _
   refine awp_weak (σ' := mkS [(0, .pt 0 (mcT L nx fb)), (2, .ptr 0 0 4), (4, .t 2 (.sl 1 (rwN n c))), (6, .ptr 1 0 4), (7, .t 2 (.int .i64 s)), (8, .t 2 (.int .i64 (c s : Nat))), (30, .t 2 (.sl 1 (rwN n c))), (31, .t 2 (.int .i64 n)), (32, .t 2 (.int .i64 s))] [(0, .box 32 [.any, .any, .any, .any]), (1, .box 32 [.t 2 (.int .i64 L), .t 2 (.int .i64 (c 0 : Nat)), .own 2 k, .own 3 k]), (2, .row 4 1 2 (tab k (boF fb c s))), (3, .vec 22 (tab k fun t => .t 2 (roF L nx c s t)))] 4 98 [.any]) ?_ ?_
   ·refine wk_list [(0, some 0), (1, some 1), (2, some 2), (3, some 3)] rfl ?_ ?_ ?_ ?_
    all_goals try simp [ints, mcT, bools, tab_map, wkPs_tab]
   refine awp_seqD (by kernel_rfl) (fun K hK => ?_)
   simp (maxSteps := 2000000) (disch := omega) [ints, rows, scal, wr64, wr8, mcT, bools, hsb]
   (repeat' first | apply hK | apply And.intro) <;> try first | (show chkD _ _ = true; kernel_rfl) | (show okH _ _ _ = true; kernel_rfl) | omega | rfl | (simp <;> omega)
   refine awp_seqD (by kernel_rfl) (fun K hK => ?_)
   simp (maxSteps := 2000000) (disch := omega) [ints, rows, scal, wr64, wr8, mcT]
   (repeat' first | apply hK | apply And.intro) <;> try first | (show chkD _ _ = true; kernel_rfl) | (show okH _ _ _ = true; kernel_rfl) | omega | rfl | (simp <;> omega)
   refine awp_seqR fun K hK => ?_
   simp (maxSteps := 2000000) (disch := omega) [ints, rows, scal, wr64, wr8, mcT]
   (repeat' first | apply hK | apply And.intro) <;> try first | (show okH _ _ _ = true; kernel_rfl) | omega | rfl | (simp <;> omega)
   refine awp_block ?_
   refine awp_loop (fun x : Nat => mkS [(0, .pt 0 (mcT L nx fb)), (2, .ptr 0 0 4), (4, .t 2 (.sl 1 (rwN n c))), (6, .ptr 1 0 4), (7, .t 2 (.int .i64 s)), (8, .t 2 (.int .i64 (c s : Nat))), (30, .t 2 (.sl 1 (rwN n c))), (31, .t 2 (.int .i64 n)), (32, .t 2 (.int .i64 s)), (66, .t 2 (.int .i64 L)), (67, .t 2 (.int .i64 x))] [(0, .box 32 [.any, .any, .any, .any]), (1, .box 32 [.t 2 (.int .i64 L), .t 2 (.int .i64 (c 0 : Nat)), .own 2 k, .own 3 k]), (2, .row 4 1 2 (tab k (boF fb c (s + 1)))), (3, .vec 22 (tab k fun t => if t = c s then .own 4 L else .t 2 (roF L nx c s t))), (4, .row 3 1 2 (rwN L fun a => if a < x then c (nxN nx L s a) else 0))] 5 98 [.any]) (fun x => x ≤ L) (fun x => L - x) ?_ ?_
   ·refine ⟨0, by omega, ?_⟩
    refine wk_list [(0, some 0), (1, some 1), (2, some 2), (3, some 3), (4, some 19000004)] rfl ?_ ?_ ?_ ?_
    all_goals try simp [ints, mcT, bools, hbo, rwN_zero, tab_set, wkPs_tab]
    intro j hj
    by_cases e : j = c s <;> simp [e]
   intro x hx
   refine awp_seqR fun K hK => ?_
   simp (maxSteps := 2000000) (disch := omega) [ints, rows, scal, wr64, wr8]
   (repeat' first | apply hK | apply And.intro) <;> try first | (show okH _ _ _ = true; kernel_rfl) | omega | rfl | (simp <;> omega)
   refine awp_seq ?_
   by_cases hxl : x < L
   ·refine awp_cond (b := true) (p := 2) (by simp [scal, hxl] <;> omega) ?_
    obtain ⟨sl, hsl⟩ : ∃ sl, sl = s * L := ⟨_, rfl⟩
    obtain ⟨ix, hix⟩ : ∃ ix, ix = s * L + x := ⟨_, rfl⟩
    have hsli : (s : Int) * (L : Int) = (sl : Nat) := by rw [hsl]; push_cast; rfl
    have hixi : (sl : Int) + (x : Int) = (ix : Nat) := by rw [hix, hsl]; push_cast; rfl
    have hixl : ix < nx.length := by rw [h.nl, hix]; exact key_lt hsn hxl
    have hnl : nx.length ≤ 24576 := by rw [h.nl]; exact Nat.mul_le_mul hn4 hl2
    have hg1 := nI_at hixl
    have hv := h.lt x s hxl hsn
    rw [← hix] at hv
    have hg2 := rwN_at (c := c) hv
    have hst := rwN_set L (fun a => if a < x then c (nxN nx L s a) else 0) x (c (nx.getD ix 0))
    have hrw : rwN L (fun i => if i = x then c (nx.getD ix 0) else if i < x then c (nxN nx L s i) else 0) = rwN L (fun i => if i < x + 1 then c (nxN nx L s i) else 0) := rwN_congr fun i hi => by
     by_cases e : i = x
     ·subst e
      rw [if_pos rfl, if_pos (by omega), hix]; rfl
     ·rw [if_neg e]
      by_cases e2 : i < x
      ·rw [if_pos e2, if_pos (by omega)]
      ·rw [if_neg e2, if_neg (by omega)]
    have hvg : (tab k fun t => if t = c s then AV.own 4 L else AV.t 2 (roF L nx c s t))[c s]? = some (.own 4 L) := by rw [tab_get _ hck]; simp
    clear hsl hix
    generalize nx.getD ix 0 = v at hg1 hg2 hv hst hrw
    refine awp_skip ?_
    show awp _ _ _ _
    refine awp_seq ?_
    refine awp_block ?_
    refine awp_seqR fun K hK => ?_
    simp (maxSteps := 2000000) (disch := omega) [ints, rows, scal, wr64, wr8]
    (repeat' first | apply hK | apply And.intro) <;> try first | (show okH _ _ _ = true; kernel_rfl) | omega | rfl | (simp <;> omega)
    refine awp_RD (by kernel_rfl) (fun K hK => ?_)
    simp (maxSteps := 2000000) (disch := omega) [ints, rows, scal, wr64, wr8, mcT, hvg, hsli, hixi, hg1, hg2]
    (repeat' first | apply hK | apply And.intro) <;> try first | (show chkD _ _ = true; kernel_rfl) | (show okH _ _ _ = true; kernel_rfl) | omega | rfl | (simp <;> omega)
    show awp _ _ _ _
    refine awp_R fun K hK => ?_
    simp (maxSteps := 2000000) (disch := omega) [ints, rows, scal, wr64, wr8]
    (repeat' first | apply hK | apply And.intro) <;> try first | (show okH _ _ _ = true; kernel_rfl) | omega | rfl | (simp <;> omega)
    refine ⟨x + 1, by omega, by omega, ?_⟩
    refine wk_list [(0, some 0), (1, some 1), (2, some 2), (3, some 3), (4, some 4)] rfl ?_ ?_ ?_ ?_
    all_goals try simp [ints, mcT, bools, hst, hrw, wkPs_tab]
    intro j hj
    by_cases e : j = c s <;> simp [e]
   ·have hxe : L = x := by omega
    subst x
    have hrw : rwN L (fun a => if a < L then c (nxN nx L s a) else 0) = rwN L (fun a => c (nxN nx L s a)) := rwN_congr fun i hi => by rw [if_pos hi]
    rw [hrw]
    refine awp_cond (b := false) (p := 2) (by simp [scal] <;> omega) ?_
    refine awp_exit ?_
    show awp _ _ _ _
    refine awp_R fun K hK => ?_
    simp (maxSteps := 2000000) (disch := omega) [ints, rows, scal, wr64, wr8]
    (repeat' first | apply hK | apply And.intro) <;> try first | (show okH _ _ _ = true; kernel_rfl) | omega | rfl | (simp <;> omega)
    refine ⟨s + 1, by omega, by omega, ?_⟩
    refine wk_list [(0, some 0), (1, some 1), (2, some 2), (3, some 3)] rfl ?_ ?_ ?_ ?_
    all_goals try simp [ints, mcT, bools, wkT_tab]
    intro j hj
    by_cases e : j = c s
    ·simp [e, wk1, hro2]
    ·simp [e, wk1, hro1 j e]
 ·have hse : n = s := by omega
  subst s
  have e1 := qBs_row fb c n k
  have e2 := qNx_row (L := L) (nx := nx) hC.part
  rw [e1, e2]
  refine awp_cond (b := false) (p := 2) (by simp [scal] <;> omega) ?_
  refine awp_exit ?_
  show awp _ _ _ _
  refine awp_seqR fun K hK => ?_
  simp (maxSteps := 2000000) (disch := omega) [ints, rows, scal, wr64, wr8]
  (repeat' apply And.intro)
  all_goals (try omega)
  refine call_rule (caps := []) (hmin) [] [] 2 rfl rfl rfl rfl (by kernel_rfl) (by simp) ?_ trivial trivial rfl trivial trivial (by simp) ?_
  ·simp [scal, rows, ints, dfT, bools]
  simp (maxSteps := 2000000) (disch := omega) [ints, rows, scal, wr64, wr8, dfT, bools]
  (repeat' first | apply hK | apply And.intro) <;> try first | (show okH _ _ _ = true; kernel_rfl) | omega | rfl | (simp <;> omega)
  refine awp_ret ?_
  refine ⟨_, ⟨m, bs', nx', by omega, hDm, hlang2, rfl⟩, ?_⟩
  refine ⟨⟨.inr rfl, _, [], (by simp; rfl), trivial, trivial, by simp [dfT, bools], ?_⟩, by simp [dfT, bools]⟩
  simp [ints, rows, dfT, bools]
end Go.Proofs.YtnffigeofdagfaaDoor.M
