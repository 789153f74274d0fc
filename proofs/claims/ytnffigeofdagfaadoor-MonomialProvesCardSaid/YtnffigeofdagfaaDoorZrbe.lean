/-
  Walks in my logic: Clone; visit, Right and known on the known automaton.
-/
import Derived.Test.YtnffigeofdagfaaDoorZrbc
import Derived.Test.YtnffigeofdagfaaDoorZrbd
namespace Go.Proofs.YtnffigeofdagfaaDoor.M
open Go.RowKit
set_option linter.unusedVariables false
set_option linter.unusedSimpArgs false

theorem wkTK_nil {H : Nat → Option AObj} {un : Nat → Prop} {q : Nat} : wkT H un q [] [] = True := eq_true ⟨rfl, fun j x y hx _ => by simp at hx⟩
theorem wkTK_cons {H : Nat → Option AObj} {un : Nat → Prop} {q : Nat} {a : AV} {t : T} {bs : List AV} {ts : List T} : wkT H un q (a :: bs) (t :: ts) = (wk1 H un q a t ∧ wkT H un q bs ts) := by
 apply propext
 constructor
 ·intro h
  exact ⟨h.2 0 a t rfl rfl, by simpa using h.1, fun j x y hx hy => h.2 (j + 1) x y (by simpa using hx) (by simpa using hy)⟩
 ·rintro ⟨h1, h2⟩
  refine ⟨by simpa using h2.1, fun j x y hx hy => ?_⟩
  cases j with
  | zero => simp at hx hy; subst hx hy; exact h1
  | succ j => exact h2.2 j x y (by simpa using hx) (by simpa using hy)
theorem rangeK_2 : List.range 2 = [0, 1] := rfl
theorem slB_ii : slB Tryd.prog 22 = true := by kernel_rfl
def moK : List T := [ints [2, 3], ints [0]]
end Go.Proofs.YtnffigeofdagfaaDoor.M
