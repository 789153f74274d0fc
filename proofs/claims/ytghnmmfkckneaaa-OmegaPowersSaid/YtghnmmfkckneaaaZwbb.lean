/-
  Walk in my logic: the value of a term by the reference of layer 28 (Of).
-/
import Derived.Test.YtghnmmfkckneaaaZwaw
import Derived.Test.YtghnmmfkckneaaaZwba
import Derived.Test.YtghnmmfkckneaaaZwaz
namespace Go.Proofs.Ytghnmmfkckneaaa.M
open Go.RowKit
set_option linter.unusedVariables false
set_option linter.unusedSimpArgs false

theorem ev_eq (T : Nat → Nat → Nat) (n one : Nat) (v : Nat → Nat) (t : Tm) : t.ev T n one v = if t.op = 1 then one else if t.op = 2 then v t.n.toNat else if t.op = 4 then powT T n (evL T n one v none t.args) t.n else evL T n one v none t.args := by
  obtain ⟨o, m, l⟩ := t
  rw [Tm.ev]
  rfl
theorem evL_one (T : Nat → Nat → Nat) (n one : Nat) (v : Nat → Nat) (a : Tm) : evL T n one v none [a] = a.ev T n one v := by
  rw [evL, evL]; rfl
theorem itS (T : Nat → Nat → Nat) (x k y : Nat) : itT T x (k + 1) y = T (itT T x k y) x := rfl
section
variable {T : Nat → Nat → Nat} {n : Nat} {one : Int} {vs : List Int} {v : Nat → Nat} {o1 : Nat}
end
end Go.Proofs.Ytghnmmfkckneaaa.M
