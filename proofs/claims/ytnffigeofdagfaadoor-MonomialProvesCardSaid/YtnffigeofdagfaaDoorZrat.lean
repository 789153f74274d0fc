/-
  Maps that number things; places of monomials: add, monomial.
-/
import Derived.Test.YtnffigeofdagfaaDoorZraq
import Derived.Test.YtnffigeofdagfaaDoorZrah
namespace Go.Proofs.YtnffigeofdagfaaDoor.M
open Go.RowKit
set_option linter.unusedVariables false
set_option linter.unusedSimpArgs false

def kents {α : Type} (f : α → T) (j : Nat) : List α → List (T × T)
 | [] => []
 | a :: r => (f a, .int .i64 (j : Int)) :: kents f (j + 1) r
def ixA {α : Type} [DecidableEq α] (x : α) : List α → Option Nat
 | [] => none
 | a :: r => if x = a then some 0 else (ixA x r).map (· + 1)
theorem fndT_kents {α : Type} [DecidableEq α] {f : α → T} {x : α} : ∀ (cl : List α) (j : Nat), (∀ y ∈ cl, kEq (f x) (f y) = decide (x = y)) → fndT (f x) (kents f j cl) = ixA x cl
 | [], j, _ => rfl
 | a :: r, j, h => by
  unfold kents fndT ixA
  rw [h a (by simp), fndT_kents r (j + 1) (fun y hy => h y (by simp [hy]))]
  by_cases e : x = a <;> simp [e]
theorem kents_len {α : Type} (f : α → T) : ∀ (cl : List α) (j : Nat), (kents f j cl).length = cl.length
 | [], j => rfl
 | a :: r, j => by simp [kents, kents_len f r (j + 1)]
theorem kents_get {α : Type} (f : α → T) : ∀ (cl : List α) (j i : Nat) (x : α), cl[i]? = some x → (kents f j cl)[i]? = some (f x, .int .i64 ((j + i : Nat) : Int))
 | [], j, i, x, h => by simp at h
 | a :: r, j, i, x, h => by
  cases i with
  | zero => simp at h; subst h; simp [kents]
  | succ i =>
   have := kents_get f r (j + 1) i x (by simpa using h)
   simp only [kents, List.getElem?_cons_succ, this]
   congr 4
   omega
theorem kents_snoc {α : Type} (f : α → T) : ∀ (cl : List α) (j : Nat) (x : α), kents f j (cl ++ [x]) = kents f j cl ++ [(f x, .int .i64 ((j + cl.length : Nat) : Int))]
 | [], j, x => by simp [kents]
 | a :: r, j, x => by
  simp only [List.cons_append, kents, kents_snoc f r (j + 1) x, List.length_cons]
  congr 5
  omega
theorem ixA_get {α : Type} [DecidableEq α] {x : α} : ∀ {cl : List α} {i : Nat}, ixA x cl = some i → cl[i]? = some x
 | [], i, h => by simp [ixA] at h
 | a :: r, i, h => by
  unfold ixA at h
  by_cases e : x = a
  ·rw [if_pos e] at h; injection h with h; subst h; simp [e]
  ·rw [if_neg e] at h
   cases hq : ixA x r with
   | none => rw [hq] at h; cases h
   | some j => rw [hq] at h; simp at h; subst h; simpa using ixA_get hq
theorem ixA_none {α : Type} [DecidableEq α] {x : α} : ∀ {cl : List α}, ixA x cl = none → x ∉ cl
 | [], _ => by simp
 | a :: r, h => by
  unfold ixA at h
  by_cases e : x = a
  ·rw [if_pos e] at h; cases h
  ·rw [if_neg e] at h
   have h2 : ixA x r = none := by
    cases hq : ixA x r with
    | none => rfl
    | some j => rw [hq] at h; cases h
   simp [e, ixA_none h2]
theorem kents_all {α : Type} (f : α → T) {P : Program} {K : TypeId} (h : ∀ a, kOK P K (f a) = true) : ∀ (cl : List α) (j : Nat), ((kents f j cl).all fun e => kOK P K e.1) = true
 | [], j => rfl
 | a :: r, j => by simp [kents, h, kents_all f h r (j + 1)]

end Go.Proofs.YtnffigeofdagfaaDoor.M
