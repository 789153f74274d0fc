/-
  Sets of states as numbers, and the automaton of the reversed language, in plain Lean.
-/
import Derived.Test.YtnffigeofdagfaaDoorZrao
namespace Go.Proofs.YtnffigeofdagfaaDoor.M
open Go.RowKit
set_option linter.unusedVariables false
set_option linter.unusedSimpArgs false

def mkM (P : Nat → Bool) : Nat → Nat
 | 0 => 0
 | k + 1 => if P k then mkM P k ||| 2 ^ k else mkM P k
theorem mkM_lt (P : Nat → Bool) : ∀ m, mkM P m < 2 ^ m
 | 0 => by simp [mkM]
 | k + 1 => by
  have h := mkM_lt P k
  have h2 : 2 ^ (k + 1) = 2 ^ k + 2 ^ k := by rw [Nat.pow_succ]; omega
  unfold mkM
  split
  ·exact Nat.or_lt_two_pow (by omega) (by omega)
  ·omega
theorem mkM_bit (P : Nat → Bool) (q : Nat) : ∀ m, (mkM P m).testBit q = (decide (q < m) && P q)
 | 0 => by simp [mkM]
 | k + 1 => by
  have ih := mkM_bit P q k
  by_cases e : q = k
  ·subst e
   have h0 : (mkM P q).testBit q = false := by rw [ih]; simp
   unfold mkM
   cases hp : P q with
   | true => simp [Nat.testBit_or, Nat.testBit_two_pow_self]
   | false => simp [h0]
  ·have hd : decide (q < k + 1) = decide (q < k) := by
    by_cases h : q < k
    ·simp [h, show q < k + 1 by omega]
    ·simp [h, show ¬ q < k + 1 by omega]
   unfold mkM
   cases hp : P k with
   | true =>
    simp only [if_true, Nat.testBit_or, ih, hd, Nat.testBit_two_pow]
    simp [show ¬ k = q from fun g => e g.symm]
   | false => simp [ih, hd]
theorem bits_eq {a b m : Nat} (ha : a < 2 ^ m) (hb : b < 2 ^ m) (h : ∀ q, q < m → a.testBit q = b.testBit q) : a = b := by
 apply Nat.eq_of_testBit_eq
 intro q
 by_cases hq : q < m
 ·exact h q hq
 ·have h1 : 2 ^ m ≤ 2 ^ q := Nat.pow_le_pow_right (by omega) (by omega)
  rw [Nat.testBit_lt_two_pow (by omega), Nat.testBit_lt_two_pow (by omega)]
def imgM (m : Nat) (nx : List (List Int)) (S x : Nat) : Nat := mkM (fun q => S.testBit (stepR nx q x)) m
theorem imgM_lt (m : Nat) (nx : List (List Int)) (S x : Nat) : imgM m nx S x < 2 ^ m := mkM_lt _ _
def powB (m : Nat) : List Bool := tab (2 ^ m) fun S => S.testBit 0
def powN (L m : Nat) (nx : List (List Int)) : List (List Int) := tab (2 ^ m) fun S => tab L fun x => (imgM m nx S x : Int)
theorem pow_df (L : Nat) {m S : Nat} (nx : List (List Int)) (hS : S < 2 ^ m) : DfL L (2 ^ m) S (powB m) (powN L m nx) := by
 refine ⟨Nat.one_le_two_pow, hS, by simp [powB], by simp [powN], fun r hr => ?_⟩
 simp only [powN, tab, List.mem_map, List.mem_range] at hr
 obtain ⟨S', hS', rfl⟩ := hr
 refine ⟨by simp, fun v hv => ?_⟩
 simp only [List.mem_map, List.mem_range] at hv
 obtain ⟨x, hx, rfl⟩ := hv
 have := imgM_lt m nx S' x
 have h2 : ((imgM m nx S' x : Nat) : Int) < ((2 ^ m : Nat) : Int) := by omega
 exact ⟨by omega, h2⟩
theorem pow_step {L m S x : Nat} (nx : List (List Int)) (hS : S < 2 ^ m) (hx : x < L) : stepR (powN L m nx) S x = imgM m nx S x :=
 stepR_at (tab_get _ hS) (tab_get _ hx)
theorem pow_acc {L m s : Nat} {bs : List Bool} {nx : List (List Int)} (hD : DfL L m s bs nx) : ∀ (w : List Nat) (S : Nat), S < 2 ^ m → (∀ a ∈ w, a < L) → accR (powB m) (powN L m nx) S w = S.testBit (walkR nx 0 w.reverse)
 | [], S, hS, _ => by
  show (powB m).getD S false = S.testBit 0
  rw [List.getD_eq_getElem?_getD, powB, tab_get _ hS]
  rfl
 | a :: w, S, hS, hw => by
  have ha := hw a (by simp)
  have hw' : ∀ b ∈ w, b < L := fun b hb => hw b (by simp [hb])
  have h0 : 0 < m := hD.n1
  show accR (powB m) (powN L m nx) (stepR (powN L m nx) S a) w = _
  rw [pow_step nx hS ha, pow_acc hD w _ (imgM_lt m nx S a) hw', imgM, mkM_bit]
  have hlt : walkR nx 0 w.reverse < m := by
   have key : ∀ (u : List Nat) (q : Nat), q < m → (∀ b ∈ u, b < L) → walkR nx q u < m := by
    intro u
    induction u with
    | nil => intro q hq _; exact hq
    | cons b u ih => intro q hq hu; exact ih _ (hD.rt.step hq (hu b (by simp))).1 (fun c hc => hu c (by simp [hc]))
   exact key _ _ h0 (fun b hb => hw' b (by simpa using hb))
  rw [decide_eq_true hlt, Bool.true_and, List.reverse_cons]
  congr 1
  simp [walkR, List.foldl_append]
def finM (m : Nat) (bs : List Bool) : Nat := mkM (fun q => bs.getD q false) m
theorem pow_rev {L m : Nat} {bs : List Bool} {nx : List (List Int)} (hD : DfL L m 0 bs nx) {w : List Nat} (hw : ∀ a ∈ w, a < L) : accR (powB m) (powN L m nx) (finM m bs) w = accR bs nx 0 w.reverse := by
 have key : ∀ (u : List Nat) (q : Nat), q < m → (∀ b ∈ u, b < L) → walkR nx q u < m := by
  intro u
  induction u with
  | nil => intro q hq _; exact hq
  | cons b u ih => intro q hq hu; exact ih _ (hD.rt.step hq (hu b (by simp))).1 (fun c hc => hu c (by simp [hc]))
 rw [pow_acc hD w (finM m bs) (mkM_lt _ _) hw, finM, mkM_bit, decide_eq_true (key _ _ hD.n1 (fun b hb => hw b (by simpa using hb))), Bool.true_and]
 rfl
end Go.Proofs.YtnffigeofdagfaaDoor.M
