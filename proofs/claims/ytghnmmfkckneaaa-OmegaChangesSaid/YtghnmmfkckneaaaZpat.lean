/-
  The arguments of a law in the logic's words.
  Arguments of a law that are slices of small integers (bytes) or strings, as trees of the logic.
-/
import Derived.Test.YtghnmmfkckneaaaZpas
import Derived.Test.YtghnmmfkckneaaaZpam
namespace Go.Proofs.Ytghnmmfkckneaaa
open Go.ChangeShapes Go.WideShapes Go.ChangeAt Go.RowKit
set_option maxRecDepth 100000 in
theorem plainS_of {W : World} {r : Reach} {base : Nat} {t e : TypeId} {v : Value} (ht : Try.prog.underlying t = some (.slice e)) (h : Value.okWide Try.prog W r base t v) : M.PlainS v := by
  simp only [Value.okWide, ht, Cell.okWide] at h
  cases v with
  | slice a l c =>
    cases a with
    | none =>
      left
      simp only [Cell.ok, ht] at h
      split at h <;> simp_all
    | some a =>
      right
      simp only [Cell.ok, ht] at h
      obtain ⟨b, o, sp⟩ := a
      have := h.2.2.2.1
      simp at this
      subst this
      exact ⟨b, o, l, c, rfl⟩
  | _ => simp_all [Cell.ok]
end Go.Proofs.Ytghnmmfkckneaaa

namespace Go.Proofs.Ytghnmmfkckneaaa
open Go.RowKit
set_option linter.unusedVariables false

set_option maxRecDepth 100000 in
theorem kints_rep {H : Type} {enc : TypeId × Value → H} {W : World} {t e : TypeId} {k : IntKind} {base : Nat} {held : Bool} {v : Value} {d : DataW H} {p : List MemPlace} (ht : Try.prog.underlying t = some (.slice e)) (he : Try.prog.underlying e = some (.int k)) (hc : Try.prog.cellsOf e = 1)
    (hval : Value.okWide Try.prog W .any base t v) (h : DataW.Trod enc Try.prog W 0 (fun _ => true) held t v d p) :
    ∃ xs : List Int, (∀ x ∈ xs, (Lit.int k x).wf = true) ∧ M.VR (M.evOf W.heap.size (fun _ => True) (fun _ => none) (fun k => k < 0) W) v (.t 1 (.sl 1 (xs.map (.int k)))) := by
  have hp := plainS_of ht hval
  obtain ⟨a, len, cap, rfl⟩ := Go.WideShapes.okWide_slice ht hval
  obtain ⟨fuel, hf⟩ := h
  rcases Go.ChangeShapes.open_ints ht he hc hf with ⟨hcs, _⟩ | ⟨ad, l, c, zs, hcs, _, hl, hm, hz, _, hcell, hwf⟩
  · simp [Value.cells] at hcs
    obtain ⟨rfl, rfl, rfl⟩ := hcs
    exact ⟨[], by simp, .t _ _ _ (.nil 1)⟩
  · simp [Value.cells] at hcs
    obtain ⟨rfl, rfl, rfl⟩ := hcs
    simp only [if_true] at hz
    rcases hp with hp | ⟨b, o, l, c, hp⟩
    · cases hp
    · injection hp with e1 e2 e3
      injection e1 with e1
      subst e1 e2 e3
      refine ⟨zs.take len, fun x hx => hwf x (List.mem_of_mem_take hx), .t _ _ _ (.sl b o len cap 1 _ (fun i => .int k (zs.getD i 0)) (by omega) (by simp [hz]; omega) hl (by simpa [maxLen] using hm) (fun i x hi => ?_) (fun i x hi => ?_))⟩
      all_goals
        have hi' : i < len := by have := (List.getElem?_eq_some_iff.1 hi).1; simp at this; omega
      · refine M.memL_some.2 ⟨fun ⟨id, u, n, h1, _⟩ => (by cases h1), .inr (.inr ⟨rfl, trivial⟩), ?_⟩
        have := hcell i (by omega)
        rw [Addr.add_lit] at this
        exact this
      · have hz' : i < zs.length := by omega
        simp [hi', hz'] at hi
        subst hi
        rw [List.getD_eq_getElem?_getD, List.getElem?_eq_getElem hz', Option.getD_some]
        exact .int _ _
end Go.Proofs.Ytghnmmfkckneaaa
