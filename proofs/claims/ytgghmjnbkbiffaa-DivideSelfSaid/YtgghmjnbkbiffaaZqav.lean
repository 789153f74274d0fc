/-
  The walks of canonical, Canonical, Kernel (of the program and of the reference).
-/
import Derived.Test.YtgghmjnbkbiffaaZqap
import Derived.Test.YtgghmjnbkbiffaaZqau
namespace Go.Proofs.Ytgghmjnbkbiffaa
open Go.RowKit
set_option linter.unusedVariables false

def CanPost (w : World) (xs : List Int) (e : Ending) (w' : World) : Prop := ∃ v, e = .returned v ∧ Ints w' v xs ∧ Below w.heap.size w w'

end Go.Proofs.Ytgghmjnbkbiffaa
