/-
  Plain mathematics of the search of homomorphisms: the list of all homomorphisms in lexicographic order, and how the search by partial maps walks it. No program in sight.
-/
import Derived.Test.YtgghmjnbkbiffaaZqaq
import Derived.Test.YtgghmjnbkbiffaaZqao
namespace Go.Proofs.Ytgghmjnbkbiffaa
set_option linter.unusedVariables false

open Classical in
/-- The list is a homomorphism. -/
noncomputable def homB (n m : Nat) (T U : Nat → Nat → Nat) (inj : Bool) (h : List Nat) : Bool := decide (IsHomF n m T U inj (nthx h))
section
variable {n m : Nat} {T U : Nat → Nat → Nat} {inj : Bool} {F F' : Nat → Int} {x : Nat}

theorem homB_iff {h : List Nat} : homB n m T U inj h = true ↔ IsHomF n m T U inj (nthx h) := by simp [homB]

end

end Go.Proofs.Ytgghmjnbkbiffaa
