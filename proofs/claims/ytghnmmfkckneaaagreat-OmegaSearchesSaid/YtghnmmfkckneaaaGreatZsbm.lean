/-
  The order of the assignments that a search tries (layer 28, plain Lean).
-/
import Derived.Test.YtghnmmfkckneaaaGreatZsaq
namespace Go.Proofs.YtghnmmfkckneaaaGreat.M
open Go.RowKit
set_option linter.unusedVariables false
set_option linter.unusedSimpArgs false

theorem NOk.cons {r : List Int} {R : List (List Int)} {n : Nat} {N : List Nat} (h : NOk (r :: R) (n :: N)) : n < r.length ∧ NOk R N := by
 refine ⟨by simpa using h.lt 0 (by simp), by simpa using h.len, fun i hi => ?_⟩
 have := h.lt (i + 1) (by simpa using hi)
 simpa using this
theorem NOk.nil {N : List Nat} (h : NOk [] N) : N = [] := List.eq_nil_of_length_eq_zero (by simpa using h.len)
theorem NOk.ex {r : List Int} {R : List (List Int)} {N : List Nat} (h : NOk (r :: R) N) : ∃ n M, N = n :: M := by
 cases N with
 | nil => have := h.len; simp at this
 | cons n M => exact ⟨n, M, rfl⟩
end Go.Proofs.YtghnmmfkckneaaaGreat.M
