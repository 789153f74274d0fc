/-
  Plain mathematics of multiplication tables (chapter 14): the shape of a table, associativity, Light's test. No program in sight.
-/
import Derived.Test.YtgghmjnbkbiffaaLib
namespace Go.Proofs.Ytgghmjnbkbiffaa
set_option linter.unusedVariables false
open Go.RowKit

def rowOk (t : List (List Int)) (r : Nat) : Prop := lnx (nthx t r) = lnx t ∧ ∀ i, i < lnx (nthx t r) → 0 ≤ nthx (nthx t r) i ∧ nthx (nthx t r) i < lnx t

open Classical in
/-- The error of a table's shape: 3 too large, 4 malformed, 0 none. -/
noncomputable def shapeF (t : List (List Int)) : Int :=
  if 400 < lnx t then 3 else if lnx t = 0 then 4 else if ∀ r, r < lnx t → rowOk t r then 0 else 4

theorem shape_large {t : List (List Int)} (h1 : 400 < lnx t) : shapeF t = 3 := by unfold shapeF; rw [if_pos h1]
theorem shape_empty {t : List (List Int)} (h1 : ¬ 0 < lnx t) : shapeF t = 4 := by unfold shapeF; rw [if_neg (by omega), if_pos (by omega)]
theorem shape_bad {t : List (List Int)} (h1 : ¬ 400 < lnx t) (r : Nat) (hr : r < lnx t) (h : ¬ rowOk t r) : shapeF t = 4 := by
  unfold shapeF
  rw [if_neg h1, if_neg (by omega), if_neg (fun H => h (H r hr))]
theorem shape_good {t : List (List Int)} (h1 : ¬ 400 < lnx t) (h0 : 0 < lnx t) (h : ∀ r, r < lnx t → rowOk t r) : shapeF t = 0 := by
  unfold shapeF
  rw [if_neg h1, if_neg (by omega), if_pos h]
theorem shape_inv {t : List (List Int)} (h : shapeF t = 0) : 0 < lnx t ∧ lnx t ≤ 400 ∧ ∀ r, r < lnx t → rowOk t r := by
  unfold shapeF at h
  split at h
  · cases h
  · split at h
    · cases h
    · split at h
      · exact ⟨by omega, by omega, by assumption⟩
      · cases h

/-- The table as numbers. -/
def tabOf (t : List (List Int)) (r c : Nat) : Nat := (nthx (nthx t r) c).toNat

theorem tab_lt {t : List (List Int)} (h : shapeF t = 0) {r c : Nat} (hr : r < lnx t) (hc : c < lnx t) : tabOf t r c < lnx t := by
  obtain ⟨_, _, h3⟩ := shape_inv h
  obtain ⟨h4, h5⟩ := h3 r hr
  have := h5 c (by omega)
  unfold tabOf
  omega
theorem tab_cast {t : List (List Int)} (h : shapeF t = 0) {r c : Nat} (hr : r < lnx t) (hc : c < lnx t) : ((tabOf t r c : Nat) : Int) = nthx (nthx t r) c := by
  obtain ⟨_, _, h3⟩ := shape_inv h
  obtain ⟨h4, h5⟩ := h3 r hr
  have := h5 c (by omega)
  unfold tabOf
  omega

theorem Tab.of_rows {w : World} {v : Value} {t : List (List Int)} (h : Rows2 w v t) (hs : shapeF t = 0) : Tab w v (lnx t) (tabOf t) := by
  obtain ⟨h0, h4, hok⟩ := shape_inv hs
  obtain ⟨a, cap, rfl, h1, h2, h3⟩ := h
  obtain ⟨b, o, rfl, hc⟩ := h3 h0
  have hx : ∀ r, r < lnx t → ∃ rb ro rc, w.cell? ⟨b, o + r, none⟩ = some (.slice (some ⟨rb, ro, none⟩) (lnx t) rc) ∧ ∀ c, c < lnx t → w.cell? ⟨rb, ro + c, none⟩ = some (.int .i64 (tabOf t r c)) := by
    intro r hr
    obtain ⟨u, hu, a', cap', rfl, _, _, h7⟩ := hc r hr
    obtain ⟨hl, _⟩ := hok r hr
    obtain ⟨rb, ro, rfl, h8⟩ := h7 (by omega)
    refine ⟨rb, ro, cap', by rw [hu, hl], fun c hcc => ?_⟩
    rw [h8 c (by omega), tab_cast hs hr hcc]
  obtain ⟨rb, ro, rc, hR⟩ := choose_nat hx
  exact ⟨b, o, cap, rb, ro, rc, rfl, h0, h4, fun r hr => (hR r hr).1, fun r c hr hc => (hR r hr).2 c hc, fun r c hr hc => tab_lt hs hr hc⟩

/-- Associativity. -/
def Assoc (n : Nat) (T : Nat → Nat → Nat) : Prop := ∀ x y z, x < n → y < n → z < n → T (T x y) z = T x (T y z)

open Classical in
/-- What Validate answers. -/
noncomputable def vErr (t : List (List Int)) : Int := if shapeF t = 0 then (if Assoc (lnx t) (tabOf t) then 0 else 5) else shapeF t

theorem vErr_shape {t : List (List Int)} (h : shapeF t ≠ 0) : vErr t = shapeF t := by unfold vErr; rw [if_neg h]
theorem vErr_ok {t : List (List Int)} (h : shapeF t = 0) (ha : Assoc (lnx t) (tabOf t)) : vErr t = 0 := by unfold vErr; rw [if_pos h, if_pos ha]
theorem vErr_not {t : List (List Int)} (h : shapeF t = 0) (ha : ¬ Assoc (lnx t) (tabOf t)) : vErr t = 5 := by unfold vErr; rw [if_pos h, if_neg ha]
theorem vErr_inv {t : List (List Int)} (h : vErr t = 0) : shapeF t = 0 ∧ Assoc (lnx t) (tabOf t) := by
  unfold vErr at h
  split at h
  · rename_i hs
    split at h
    · rename_i ha; exact ⟨hs, ha⟩
    · cases h
  · rename_i hs; exact absurd h hs

/-- Made of the generators by products, in some order of brackets. -/
def Made (T : Nat → Nat → Nat) (gens : List Nat) (x : Nat) : Prop := ∀ S : Nat → Prop, (∀ g, g ∈ gens → S g) → (∀ x y, S x → S y → S (T x y)) → S x

theorem Made.gen {T : Nat → Nat → Nat} {gens : List Nat} {g : Nat} (h : g ∈ gens) : Made T gens g := fun _ hg _ => hg g h
theorem Made.mul {T : Nat → Nat → Nat} {gens : List Nat} {x y : Nat} (hx : Made T gens x) (hy : Made T gens y) : Made T gens (T x y) := fun S hg hm => hm x y (hx S hg hm) (hy S hg hm)
theorem Made.mono {T : Nat → Nat → Nat} {g g' : List Nat} (hg : ∀ x ∈ g, x ∈ g') {x : Nat} (h : Made T g x) : Made T g' x := fun S h1 h2 => h S (fun y hy => h1 y (hg y hy)) h2

/-- Light's test. -/
theorem light {n : Nat} {T : Nat → Nat → Nat} {gens : List Nat} (hT : ∀ r c, r < n → c < n → T r c < n) (hg : ∀ g ∈ gens, g < n)
    (hall : ∀ x, x < n → Made T gens x) (hL : ∀ g ∈ gens, ∀ x y, x < n → y < n → T (T x g) y = T x (T g y)) : Assoc n T := by
  have key : ∀ g, Made T gens g → g < n ∧ ∀ x y, x < n → y < n → T (T x g) y = T x (T g y) := by
    intro g h
    refine h (fun g => g < n ∧ ∀ x y, x < n → y < n → T (T x g) y = T x (T g y)) (fun y hy => ⟨hg y hy, hL y hy⟩) ?_
    rintro a b ⟨ha, la⟩ ⟨hb, lb⟩
    refine ⟨hT a b ha hb, fun x y hx hy => ?_⟩
    rw [← la x b hx hb, lb (T x a) y (hT x a hx ha) hy, la x (T b y) hx (hT b y hb hy), lb a y ha hy]
  intro x y z hx hy hz
  exact (key y (hall y hy)).2 x z hx hz
end Go.Proofs.Ytgghmjnbkbiffaa
