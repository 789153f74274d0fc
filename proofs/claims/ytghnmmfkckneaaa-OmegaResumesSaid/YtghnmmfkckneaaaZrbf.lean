/-
  Walks in my logic: Powers, Omega, In, Identity of the reference of layer 14.
-/
import Derived.Test.YtghnmmfkckneaaaZrap
import Derived.Test.YtghnmmfkckneaaaZraq
namespace Go.Proofs.Ytghnmmfkckneaaa.M
open Go.RowKit
set_option linter.unusedVariables false
set_option linter.unusedSimpArgs false

theorem idG_succ (T : Nat → Nat → Nat) (n f e : Nat) : idG T n (f + 1) e = if isId T n e = true then (e : Int) else idG T n f (e + 1) := rfl
end Go.Proofs.Ytghnmmfkckneaaa.M
