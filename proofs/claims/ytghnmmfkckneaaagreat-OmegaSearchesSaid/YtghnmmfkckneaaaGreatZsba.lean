/-
  Walks in my logic: Value of layer 28, of the program and of its reference: both give the same.
-/
import Derived.Test.YtghnmmfkckneaaaGreatZsay
import Derived.Test.YtghnmmfkckneaaaGreatZsaq
namespace Go.Proofs.YtghnmmfkckneaaaGreat.M
open Go.RowKit
set_option linter.unusedVariables false
set_option linter.unusedSimpArgs false

theorem rng_l3 : List.range 3 = [0, 1, 2] := rfl
end Go.Proofs.YtghnmmfkckneaaaGreat.M
