/-
  Walks in my logic: Ordered (semigroupref35), Ordered (monomial), of valid automata.
-/
import Derived.Test.YtnffigeofdagfaaDoorZrav
import Derived.Test.YtnffigeofdagfaaDoorZrap
import Derived.Test.YtnffigeofdagfaaDoorZrao
import Derived.Test.YtnffigeofdagfaaDoorZrbc
namespace Go.Proofs.YtnffigeofdagfaaDoor.M
open Go.RowKit
set_option linter.unusedVariables false
set_option linter.unusedSimpArgs false

def dfO2 (L s : Nat) (bs : List Bool) (nxt : List (List Int)) : AObj := .box 32 [.t 2 (.int .i64 L), .t 2 (.int .i64 s), .t 2 (bools bs), .t 2 (rows nxt)]
def metT (m : Nat) (met : Nat → Bool) : List T := tab m fun j => .bool (met j)
@[simp] theorem metT_len (m : Nat) (met : Nat → Bool) : (metT m met).length = m := by simp [metT]
theorem metT_at {m j : Nat} {met : Nat → Bool} (h : j < m) : (metT m met)[j]? = some (.bool (met j)) := tab_get _ h
theorem metT_set (m p : Nat) (met : Nat → Bool) : (metT m met).set p (.bool true) = metT m (fun j => if j = p then true else met j) := by
 unfold metT
 rw [tab_set]
 refine tab_congr (fun j hj => ?_)
 by_cases e : j = p <;> simp [e]
theorem metT_zero (m : Nat) : metT m (fun _ => false) = List.replicate m (.bool false) := by
 unfold metT
 rw [rep_tab]
end Go.Proofs.YtnffigeofdagfaaDoor.M
