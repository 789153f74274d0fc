/-
  Searches of layer 28 in plain Lean: however a search is cut into parts, its end is the same.
-/
import Derived.Test.YtghnmmfkckneaaaGreatZsaq
namespace Go.Proofs.YtghnmmfkckneaaaGreat.M
open Go.RowKit
set_option linter.unusedVariables false
set_option linter.unusedSimpArgs false

section
variable {v1 v2 : List Nat → Nat} {R : List (List Int)}
theorem runH_succ (f s : Nat) (N : List Nat) : runH v1 v2 R (f + 1) s N = if v1 N ≠ v2 N then (s + 1, true, true, N) else if (advI R N).2 = true then runH v1 v2 R f (s + 1) (advI R N).1 else (s + 1, false, true, (advI R N).1) := rfl
theorem run_add (g : Nat) : ∀ (f s : Nat) (N : List Nat), runH v1 v2 R (f + g) s N = if (runH v1 v2 R f s N).2.2.1 = true then runH v1 v2 R f s N else runH v1 v2 R g (runH v1 v2 R f s N).1 (runH v1 v2 R f s N).2.2.2
 | 0, s, N => by rw [Nat.zero_add]; rfl
 | f + 1, s, N => by
  rw [show f + 1 + g = (f + g) + 1 by omega, runH_succ, runH_succ]
  by_cases h : v1 N ≠ v2 N
  ·rw [if_pos h, if_pos h, if_pos rfl]
  rw [if_neg h, if_neg h]
  by_cases h2 : (advI R N).2 = true
  ·rw [if_pos h2, if_pos h2]
   exact run_add g f (s + 1) _
  ·rw [if_neg h2, if_neg h2, if_pos rfl]
theorem run_off (d : Nat) : ∀ (f s : Nat) (N : List Nat), runH v1 v2 R f (s + d) N = ((runH v1 v2 R f s N).1 + d, (runH v1 v2 R f s N).2)
 | 0, s, N => rfl
 | f + 1, s, N => by
  rw [runH_succ, runH_succ]
  by_cases h : v1 N ≠ v2 N
  ·rw [if_pos h, if_pos h]
   simp only [Prod.mk.injEq, and_true]
   omega
  rw [if_neg h, if_neg h]
  by_cases h2 : (advI R N).2 = true
  ·rw [if_pos h2, if_pos h2, show s + d + 1 = (s + 1) + d by omega]
   exact run_off d f (s + 1) _
  ·rw [if_neg h2, if_neg h2]
   simp only [Prod.mk.injEq, and_true]
   omega
theorem run_nd : ∀ (f s : Nat) (N : List Nat), (runH v1 v2 R f s N).2.2.1 = false → (runH v1 v2 R f s N).1 = s + f ∧ (runH v1 v2 R f s N).2.1 = false
 | 0, s, N, _ => ⟨rfl, rfl⟩
 | f + 1, s, N, h => by
  rw [runH_succ] at h ⊢
  by_cases h1 : v1 N ≠ v2 N
  ·rw [if_pos h1] at h; cases h
  rw [if_neg h1] at h ⊢
  by_cases h2 : (advI R N).2 = true
  ·rw [if_pos h2] at h ⊢
   obtain ⟨e1, e2⟩ := run_nd f (s + 1) _ h
   exact ⟨by omega, e2⟩
  ·rw [if_neg h2] at h; cases h
def srD (v1 v2 : List Nat → Nat) (R : List (List Int)) (B : Nat) : Nat × Bool × Bool × List Nat :=
 if empB R = true then (0, false, true, List.replicate R.length 0) else runH v1 v2 R B 0 (List.replicate R.length 0)
theorem srD_0 : srD v1 v2 R 0 = (0, false, empB R, List.replicate R.length 0) := by
 unfold srD
 cases h : empB R with
 | true => rw [if_pos rfl]
 | false => rw [if_neg (by decide)]; rfl
theorem srD_add (B n : Nat) : srD v1 v2 R (B + n) = if (srD v1 v2 R B).2.2.1 = true then srD v1 v2 R B else ((srD v1 v2 R B).1 + (runH v1 v2 R n 0 (srD v1 v2 R B).2.2.2).1, (runH v1 v2 R n 0 (srD v1 v2 R B).2.2.2).2) := by
 unfold srD
 by_cases h : empB R = true
 ·rw [if_pos h, if_pos h, if_pos rfl]
 ·rw [if_neg h, if_neg h, run_add]
  split
  ·rfl
  ·have := run_off (v1 := v1) (v2 := v2) (R := R) (runH v1 v2 R B 0 (List.replicate R.length 0)).1 n 0 (runH v1 v2 R B 0 (List.replicate R.length 0)).2.2.2
   rw [Nat.zero_add] at this
   rw [this, Nat.add_comm]
theorem srD_ge {B C : Nat} (h : B ≤ C) (hd : (srD v1 v2 R B).2.2.1 = true) : srD v1 v2 R C = srD v1 v2 R B := by
 obtain ⟨n, rfl⟩ : ∃ n, C = B + n := ⟨C - B, by omega⟩
 rw [srD_add, if_pos hd]
theorem srD_nd {B : Nat} (hd : (srD v1 v2 R B).2.2.1 = false) : empB R = false ∧ (srD v1 v2 R B).1 = B ∧ (srD v1 v2 R B).2.1 = false := by
 unfold srD at hd ⊢
 by_cases h : empB R = true
 ·rw [if_pos h] at hd; cases hd
 ·rw [if_neg h] at hd ⊢
  obtain ⟨e1, e2⟩ := run_nd _ _ _ hd
  exact ⟨by simpa using h, by omega, e2⟩
theorem srD_fd (B : Nat) (h : (srD v1 v2 R B).2.1 = true) : (srD v1 v2 R B).2.2.1 = true := by
 cases e : (srD v1 v2 R B).2.2.1 with
 | true => rfl
 | false => rw [(srD_nd e).2.2] at h; cases h
end
end Go.Proofs.YtghnmmfkckneaaaGreat.M
