/-
  What a search over all elements finds (layer 28, plain Lean).
-/
import Derived.Test.YtghnmmfkckneaaaGreatZlau
import Derived.Test.YtghnmmfkckneaaaGreatZlbh
import Derived.Test.YtghnmmfkckneaaaGreatZlaq
namespace Go.Proofs.YtghnmmfkckneaaaGreat.M
open Go.RowKit
set_option linter.unusedVariables false
set_option linter.unusedSimpArgs false

theorem allL_at {n i : Nat} (h : i < (allL n).length) : (allL n)[i] = (i : Int) := by simp [allL, tab]
theorem allL_mem {n : Nat} {x : Int} : x ∈ allL n ↔ 0 ≤ x ∧ x < (n : Int) := by
 unfold allL tab
 rw [List.mem_map]
 constructor
 ·rintro ⟨i, hi, rfl⟩
  have := List.mem_range.1 hi
  omega
 ·rintro ⟨h1, h2⟩
  exact ⟨x.toNat, List.mem_range.2 (by omega), by omega⟩
theorem allL_size (n : Nat) : (allL n).length = n := by simp [allL]
theorem closP_all {T : Nat → Nat → Nat} {n : Nat} (hT : ∀ r c, r < n → c < n → T r c < n) : ClosP T n (allL n) := by
 refine ⟨fun i h => ?_, fun i h => ?_, fun x hx y hy => ?_⟩
 ·rw [allL_at]
  rw [allL_size] at h
  omega
 ·rw [allL_at, allL_at]
  omega
 ·obtain ⟨h1, h2⟩ := allL_mem.1 hx
  obtain ⟨h3, h4⟩ := allL_mem.1 hy
  have := hT x.toNat y.toNat (by omega) (by omega)
  exact allL_mem.2 ⟨by omega, by omega⟩
theorem allL_asc (n : Nat) : (allL n).Pairwise (· < ·) := by
 unfold allL tab
 rw [List.pairwise_map]
 exact List.pairwise_lt_range.imp fun h => by omega
theorem rngL_asc {T : Nat → Nat → Nat} {n : Nat} {a b : Tm} : ∀ l ∈ rngL T (allL n) a b, l.Pairwise (· < ·) := fun l hl => by
 unfold rngL tab at hl
 obtain ⟨i, -, rfl⟩ := List.mem_map.1 hl
 exact (allL_asc n).filter _
theorem huErr_all {tb : List (List Int)} (v1 : vErr tb = 0) (hi0 : idI (tabOf tb) tb.length = 0) {a b : Tm} (hv : a.val = true ∧ b.val = true) : huErr tb (allL tb.length) a b = 0 := by
 have hc := closB_t (closP_all (TbL.of v1).lt)
 unfold huErr
 rw [if_neg (by omega), if_neg (by rw [hc]; decide), if_neg (by rw [hv.1, hv.2]; decide), if_neg (by rintro ⟨h, -⟩; omega)]
theorem vio_cases {tb : List (List Int)} (v1 : vErr tb = 0) (hi0 : idI (tabOf tb) tb.length = 0) {a b : Tm} (hv : a.val = true ∧ b.val = true) {R : List (List Int)} (hR : R = rngL (tabOf tb) (allL tb.length) a b) :
  (empB R = true ∧ vioP tb (allL tb.length) a b 2000 = ([], 0, 9)) ∨
  (empB R = false ∧
   (
    (∃ M s, NOk R M ∧ vioP tb (allL tb.length) a b 2000 = (asg R M, s, 0) ∧ asV (tabOf tb) tb.length R a M ≠ asV (tabOf tb) tb.length R b M ∧ ∀ X, NOk R X → ltL X M → asV (tabOf tb) tb.length R a X = asV (tabOf tb) tb.length R b X) ∨
    (∃ s, vioP tb (allL tb.length) a b 2000 = ([], s, 9) ∧ ∀ X, NOk R X → asV (tabOf tb) tb.length R a X = asV (tabOf tb) tb.length R b X) ∨
    (vioP tb (allL tb.length) a b 2000 = ([], 0, 7)))) := by
 have h0 := huErr_all v1 hi0 hv
 unfold vioP
 rw [← hR, if_neg (by rw [h0]; decide), if_neg (by decide)]
 by_cases he : empB R = true
 ·rw [if_pos he]; exact .inl ⟨he, rfl⟩
 rw [if_neg he]
 have he' : empB R = false := by simpa using he
 refine .inr ⟨he', ?_⟩
 have hz := zero_ok he'
 have hb : ∀ X, NOk R X → ltL X (List.replicate R.length 0) → asV (tabOf tb) tb.length R a X = asV (tabOf tb) tb.length R b X := fun X _ h => absurd h (zero_min _ _)
 obtain ⟨r1, r2⟩ := run_least (v1 := asV (tabOf tb) tb.length R a) (v2 := asV (tabOf tb) tb.length R b) (2000 : Int).toNat 0 _ hz hb
 have hok := (runH_ok (v1 := asV (tabOf tb) tb.length R a) (v2 := asV (tabOf tb) tb.length R b) (2000 : Int).toNat 0 hz).1
 unfold vioR
 generalize runH (asV (tabOf tb) tb.length R a) (asV (tabOf tb) tb.length R b) R (2000 : Int).toNat 0 (List.replicate R.length 0) = y at r1 r2 hok ⊢
 by_cases h1 : y.2.1 = true
 ·rw [if_pos h1]
  obtain ⟨r3, r4⟩ := r1 h1
  exact .inl ⟨_, _, hok, rfl, r3, r4⟩
 rw [if_neg h1]
 by_cases h2 : y.2.2.1 = true
 ·rw [if_pos h2]
  exact .inr (.inl ⟨_, rfl, r2 (by simpa using h1) h2⟩)
 ·rw [if_neg h2]
  exact .inr (.inr rfl)
theorem empB_inv {R : List (List Int)} (h : empB R = true) : ∃ k, ∃ h : k < R.length, R[k].length = 0 := by
 unfold empB at h
 obtain ⟨l, hl, e⟩ := List.any_eq_true.1 h
 obtain ⟨k, hk, rfl⟩ := List.getElem_of_mem hl
 exact ⟨k, hk, by simpa using e⟩
theorem empB_no {R : List (List Int)} (h : empB R = false) {k : Nat} (hk : k < R.length) : 0 < R[k].length := by
 refine Nat.pos_of_ne_zero fun h0 => ?_
 have : empB R = true := by
  unfold empB
  exact List.any_eq_true.2 ⟨R[k], List.getElem_mem hk, by simpa using h0⟩
 rw [h] at this
 cases this
theorem asg_tab (R : List (List Int)) (X : Nat → Nat) : asg R (tab R.length X) = tab R.length fun i => (R.getD i []).getD (X i) 0 := by
 unfold asg
 refine tab_congr fun i hi => ?_
 unfold asgF
 have e : (tab R.length X).getD i 0 = X i := by rw [List.getD_eq_getElem?_getD, tab_get _ hi]; rfl
 rw [e]
theorem nok_tab {R : List (List Int)} {X : Nat → Nat} (h : ∀ j, j < R.length → X j < (R.getD j []).length) : NOk R (tab R.length X) := by
 refine ⟨by simp, fun i hi => ?_⟩
 have e : (tab R.length X).getD i 0 = X i := by rw [List.getD_eq_getElem?_getD, tab_get _ hi]; rfl
 rw [e]
 exact h i hi
end Go.Proofs.YtghnmmfkckneaaaGreat.M
