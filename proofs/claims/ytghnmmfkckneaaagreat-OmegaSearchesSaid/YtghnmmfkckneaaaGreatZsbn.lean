/-
  What a search over all elements finds (layer 28, plain Lean).
-/
import Derived.Test.YtghnmmfkckneaaaGreatZsaq
import Derived.Test.YtghnmmfkckneaaaGreatZsbk
import Derived.Test.YtghnmmfkckneaaaGreatZsbm
namespace Go.Proofs.YtghnmmfkckneaaaGreat.M
open Go.RowKit
set_option linter.unusedVariables false
set_option linter.unusedSimpArgs false

theorem allL_at {n i : Nat} (h : i < (allL n).length) : (allL n)[i] = (i : Int) := by simp [allL, tab]
theorem allL_mem {n : Nat} {x : Int} : x ∈ allL n ↔ 0 ≤ x ∧ x < (n : Int) := by
 unfold allL tab
 rw [List.mem_map]
 constructor
 ·rintro ⟨i, hi, rfl⟩
  have := List.mem_range.1 hi
  omega
 ·rintro ⟨h1, h2⟩
  exact ⟨x.toNat, List.mem_range.2 (by omega), by omega⟩
theorem allL_size (n : Nat) : (allL n).length = n := by simp [allL]
theorem closP_all {T : Nat → Nat → Nat} {n : Nat} (hT : ∀ r c, r < n → c < n → T r c < n) : ClosP T n (allL n) := by
 refine ⟨fun i h => ?_, fun i h => ?_, fun x hx y hy => ?_⟩
 ·rw [allL_at]
  rw [allL_size] at h
  omega
 ·rw [allL_at, allL_at]
  omega
 ·obtain ⟨h1, h2⟩ := allL_mem.1 hx
  obtain ⟨h3, h4⟩ := allL_mem.1 hy
  have := hT x.toNat y.toNat (by omega) (by omega)
  exact allL_mem.2 ⟨by omega, by omega⟩
theorem huErr_all {tb : List (List Int)} (v1 : vErr tb = 0) (hi0 : idI (tabOf tb) tb.length = 0) {a b : Tm} (hv : a.val = true ∧ b.val = true) : huErr tb (allL tb.length) a b = 0 := by
 have hc := closB_t (closP_all (TbL.of v1).lt)
 unfold huErr
 rw [if_neg (by omega), if_neg (by rw [hc]; decide), if_neg (by rw [hv.1, hv.2]; decide), if_neg (by rintro ⟨h, -⟩; omega)]
theorem empB_no {R : List (List Int)} (h : empB R = false) {k : Nat} (hk : k < R.length) : 0 < R[k].length := by
 refine Nat.pos_of_ne_zero fun h0 => ?_
 have : empB R = true := by
  unfold empB
  exact List.any_eq_true.2 ⟨R[k], List.getElem_mem hk, by simpa using h0⟩
 rw [h] at this
 cases this
end Go.Proofs.YtghnmmfkckneaaaGreat.M
