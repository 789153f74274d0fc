/-
  slices.Clone of an empty list of ints, by the kit's contracts.
-/
import Derived.Test.YtnffigeofdagfaaDoorZraz
import Derived.Test.YtnffigeofdagfaaDoorZrbe
import Derived.Test.YtnffigeofdagfaaDoorZrbf
namespace Go.Proofs.YtnffigeofdagfaaDoor.M
open Go.RowKit Go.Shelf Go.Lib
set_option linter.unusedVariables false
set_option linter.unusedSimpArgs false

theorem gh_none {E : Ev} {f : Nat → Value} : ∀ {l : List AV}, (∀ a ∈ l, ghA1 a = .any) → GhR E f (ghA l) := fun {l} h i c hi => by
 unfold ghA at hi
 rw [List.getElem?_map] at hi
 cases hq : l[i]? with
 | none => rw [hq] at hi; cases hi
 | some a =>
  rw [hq] at hi
  simp only [Option.map_some, Option.some.injEq] at hi
  rw [h a (List.mem_of_getElem? hq)] at hi
  subst hi
  exact .any _
end Go.Proofs.YtnffigeofdagfaaDoor.M
