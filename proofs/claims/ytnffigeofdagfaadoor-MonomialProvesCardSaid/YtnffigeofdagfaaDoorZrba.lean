/-
  Walks in my logic: split and classes (monomial).
-/
import Derived.Test.YtnffigeofdagfaaDoorZrau
namespace Go.Proofs.YtnffigeofdagfaaDoor.M
open Go.RowKit
set_option linter.unusedVariables false
set_option linter.unusedSimpArgs false

def rwN (n : Nat) (c : Nat → Nat) : List T := tab n fun i => .int .i64 (c i : Int)
@[simp] theorem rwN_len (n : Nat) (c : Nat → Nat) : (rwN n c).length = n := by simp [rwN]
theorem rwN_at {n : Nat} {c : Nat → Nat} {i : Nat} (h : i < n) : (rwN n c)[i]? = some (.int .i64 (c i : Int)) := tab_get _ h
theorem rwN_set (n : Nat) (c : Nat → Nat) (k x : Nat) : (rwN n c).set k (.int .i64 (x : Int)) = rwN n (fun i => if i = k then x else c i) := by
 rw [rwN, tab_set]
 refine tab_congr fun i hi => ?_
 by_cases e : i = k <;> simp [e]
theorem rwN_congr {n : Nat} {c d : Nat → Nat} (h : ∀ i, i < n → c i = d i) : rwN n c = rwN n d := tab_congr fun i hi => by rw [h i hi]
theorem rwN_zero (n : Nat) : List.replicate n (T.int .i64 0) = rwN n fun _ => 0 := by
 unfold rwN tab
 rw [List.map_const', List.length_range]
 rfl
@[simp] theorem lvs_rwN (p n : Nat) (c : Nat → Nat) : lvs p (rwN n c) = 2 := by
 unfold lvs
 rw [if_pos]
 simp [rwN, tab, scal]
end Go.Proofs.YtnffigeofdagfaaDoor.M
