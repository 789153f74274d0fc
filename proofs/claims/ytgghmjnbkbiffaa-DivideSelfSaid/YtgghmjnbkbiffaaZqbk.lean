/-
  Walk in my logic: the law DivideMaps.
-/
import Derived.Test.YtgghmjnbkbiffaaZqbi
import Derived.Test.YtgghmjnbkbiffaaZqbj
namespace Go.Proofs.Ytgghmjnbkbiffaa.M
open Go.RowKit
set_option linter.unusedVariables false
set_option linter.unusedSimpArgs false

theorem maps_fn (t : List (List Int)) (gens : List Int) (u : List (List Int)) (f : List Int) (hl : gens.length ≤ 100000) (hu : u.length ≤ 1000) :
    ∃ A B E, A = natsOf (dvA t gens u f) ∧ B = natsOf (Go.Proofs.Ytgghmjnbkbiffaa.dvB t gens u f) ∧ E = dvErr t gens u f ∧ A.length ≤ 1000 ∧ B.length ≤ 1000 ∧
      FnA Try.prog 41 [.t 0 (rows t), .t 0 (ints gens), .t 0 (rows u), .t 0 (ints f)] (.tup [.t 2 (ints A), .t 2 (ints B), .t 2 (.int .i64 E)]) ∧
      FnA Try.prog 42 [.t 0 (rows t), .t 0 (ints gens), .t 0 (rows u), .t 0 (ints f)] (.tup [.t 2 (ints A), .t 2 (ints B), .t 2 (.int .i64 E)]) := by
  refine ⟨_, _, _, rfl, rfl, rfl, ?_, ?_, map_fn t gens u f hl, refMap_fn t gens u f⟩
  · have := lnx_natsOf (dvA t gens u f)
    simp only [lnx] at this
    rw [this]
    unfold dvA
    split
    · have := dvEl_len (tabOf t) (tabOf u) (gpairs gens f (lnx gens)) (lnx u)
      simp only [lnx] at this ⊢
      omega
    · simp
  · have := lnx_natsOf (Go.Proofs.Ytgghmjnbkbiffaa.dvB t gens u f)
    simp only [lnx] at this
    rw [this]
    unfold Go.Proofs.Ytgghmjnbkbiffaa.dvB
    split
    · have := dvVal_len (tabOf t) (tabOf u) (gpairs gens f (lnx gens)) (lnx u)
      simp only [lnx] at this ⊢
      omega
    · simp
end Go.Proofs.Ytgghmjnbkbiffaa.M
