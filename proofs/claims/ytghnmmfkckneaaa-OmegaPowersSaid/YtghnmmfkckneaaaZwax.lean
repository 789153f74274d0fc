/-
  Walk in my logic: generated terms (semigroupmade.Term).
-/
import Derived.Test.YtghnmmfkckneaaaZwaw
import Derived.Test.YtghnmmfkckneaaaZwah
namespace Go.Proofs.Ytghnmmfkckneaaa.M
open Go.RowKit
set_option linter.unusedVariables false
set_option linter.unusedSimpArgs false

def tmB : Nat → Nat
  | 0 => 1
  | d + 1 => 1 + 3 * tmB d
def TmG (xs : List Int) (d : Nat) (res : AV) (H' : List AObj) : Prop := ∃ (t : Tm) (b : Nat), t.ok = true ∧ t.sz ≤ tmB d ∧ b ≤ xs.length ∧ res = tmV 2 t ∧ H' = [tpO 1 xs b]
def TmG' (xs : List Int) (d : Nat) (res : AV) (H' : List AObj) : Prop := ∃ (t : Tm) (b : Nat), t.ok = true ∧ t.sz ≤ tmB d ∧ b ≤ xs.length ∧ (res = tmV 2 t ∨ t.args = [] ∧ res = tmL t.op t.n) ∧ H' = [tpO 1 xs b]
theorem TmG'.turn {P : Program} {f : FuncId} {args : List AV} {H : List AObj} {xs : List Int} {d : Nat} (h : ∃ res H', TmG' xs d res H' ∧ FnS P f args H res H') : ∃ res H', TmG xs d res H' ∧ FnS P f args H res H' := by
  obtain ⟨res, H', ⟨t, b, h1, h2, h3, h4, h5⟩, hF⟩ := h
  refine ⟨tmV 2 t, H', ⟨t, b, h1, h2, h3, rfl, h5⟩, ?_⟩
  rcases h4 with rfl | ⟨h4, rfl⟩
  · exact hF
  · refine hF.res' fun E v hv => ?_
    obtain ⟨o, n, l⟩ := t
    have h4 : l = [] := h4
    subst h4
    exact hv.zeT
theorem ok_var {n : Nat} (h : n < 6) : (Tm.mk 2 n []).ok = true := by
  rw [ok_eq, Bool.and_eq_true]
  exact ⟨decide_eq_true (.inr (.inl ⟨rfl, by show (0 : Int) ≤ n; omega, by show (n : Int) < 6; omega, rfl⟩)), rfl⟩
theorem ok_pow {n : Int} {t : Tm} (h0 : -1 ≤ n) (h9 : n ≤ 9) (h : t.ok = true) : (Tm.mk 4 n [t]).ok = true := by
  rw [ok_eq, Bool.and_eq_true]
  exact ⟨decide_eq_true (.inr (.inr (.inr ⟨rfl, h0, h9, rfl⟩))), by show (t.ok && true) = true; rw [h]; rfl⟩
end Go.Proofs.Ytghnmmfkckneaaa.M
