/-
  Walks in my logic: both, Classes.
  The quotient of an automaton by a partition of its states, in plain Lean.
-/
import Derived.Test.YtnffigeofdagfaaDoorZran
import Derived.Test.YtnffigeofdagfaaDoorZrao
namespace Go.Proofs.YtnffigeofdagfaaDoor.M
open Go.RowKit
set_option linter.unusedVariables false
set_option linter.unusedSimpArgs false

structure ClG (L n : Nat) (bs : List Bool) (nxt : List (List Int)) (r : Nat → Nat) : Prop where
 ok : POK r n
 st : ∀ i j, i < n → j < n → r i = r j → bs[i]? = bs[j]? ∧ ∀ x, x < L → r (stepR nxt i x) = r (stepR nxt j x)
 co : ∀ i j, i < n → j < n → LQ L bs nxt i j → r i = r j

set_option linter.unusedSimpArgs false

structure QuI (L : Nat) (bs : List Bool) (nxt : List (List Int)) (p : Nat → Nat) (bs' : List Bool) (nx' : List (List Int)) (k : Nat) : Prop where
 bl : bs'.length = cv p k
 nl : nx'.length = cv p k
 cls : ∀ c, c < cv p k → ∃ q, q < k ∧ p q = c ∧ bs'[c]? = bs[q]? ∧ nx'[c]? = some (tab L fun x => (p (stepR nxt q x) : Int))
theorem QuI.start {L : Nat} {bs : List Bool} {nxt : List (List Int)} {p : Nat → Nat} : QuI L bs nxt p [] [] 0 := ⟨rfl, rfl, fun c hc => by simp [cv] at hc⟩
theorem QuI.old {L : Nat} {bs : List Bool} {nxt : List (List Int)} {p : Nat → Nat} {bs' : List Bool} {nx' : List (List Int)} {k : Nat} (h : QuI L bs nxt p bs' nx' k) (hk : p k ≠ cv p k) : QuI L bs nxt p bs' nx' (k + 1) := by
 have e : cv p (k + 1) = cv p k := by
  show (if p k = cv p k then cv p k + 1 else cv p k) = _
  rw [if_neg hk]
 exact ⟨by rw [e]; exact h.bl, by rw [e]; exact h.nl, fun c hc => by
  rw [e] at hc
  obtain ⟨q, h1, h2⟩ := h.cls c hc
  exact ⟨q, by omega, h2⟩⟩
theorem QuI.new {L : Nat} {bs : List Bool} {nxt : List (List Int)} {p : Nat → Nat} {bs' : List Bool} {nx' : List (List Int)} {k : Nat} {b : Bool} (h : QuI L bs nxt p bs' nx' k) (hk : p k = cv p k) (hb : bs[k]? = some b) : QuI L bs nxt p (bs' ++ [b]) (nx' ++ [tab L fun x => (p (stepR nxt k x) : Int)]) (k + 1) := by
 have e : cv p (k + 1) = cv p k + 1 := by
  show (if p k = cv p k then cv p k + 1 else cv p k) = _
  rw [if_pos hk]
 refine ⟨by simp [e, h.bl], by simp [e, h.nl], fun c hc => ?_⟩
 by_cases ec : c = cv p k
 ·refine ⟨k, by omega, by omega, ?_, ?_⟩
  ·rw [hb, List.getElem?_append_right (by rw [h.bl]; omega), h.bl, ec, Nat.sub_self]; rfl
  ·rw [List.getElem?_append_right (by rw [h.nl]; omega), h.nl, ec, Nat.sub_self]; rfl
 ·obtain ⟨q, h1, h2, h3, h4⟩ := h.cls c (by omega)
  refine ⟨q, by omega, h2, ?_, ?_⟩
  ·rw [List.getElem?_append_left (by rw [h.bl]; omega)]; exact h3
  ·rw [List.getElem?_append_left (by rw [h.nl]; omega)]; exact h4
theorem QuI.fin {L n s : Nat} {bs : List Bool} {nxt : List (List Int)} {p : Nat → Nat} {bs' : List Bool} {nx' : List (List Int)} (hD : DfL L n s bs nxt) (hC : ClG L n bs nxt p) (h : QuI L bs nxt p bs' nx' n) :
  (∀ q, q < n → DfL L (cv p n) (p q) bs' nx') ∧ ∀ w, (∀ a ∈ w, a < L) → ∀ q, q < n → accR bs' nx' (p q) w = accR bs nxt q w := by
 refine ⟨fun q hq => ⟨by have := hC.ok.lt hq hq; omega, hC.ok.lt hq hq, h.bl, h.nl, fun r hr => ?_⟩, fun w hw q hq => ?_⟩
 ·obtain ⟨j, hj, e⟩ := List.getElem_of_mem hr
  obtain ⟨q', h1, h2, h3, h4⟩ := h.cls j (by have := h.nl; omega)
  rw [List.getElem?_eq_getElem hj] at h4
  injection h4 with h4
  rw [e] at h4
  subst h4
  refine ⟨by simp, fun v hv => ?_⟩
  simp only [tab, List.mem_map, List.mem_range] at hv
  obtain ⟨x, hx, rfl⟩ := hv
  have := (hD.rt.step h1 hx).1
  have := hC.ok.lt this this
  omega
 ·refine accR_corr (fun i q => q < n ∧ p q = i) (fun i q e => ?_) (fun i q x e hx => ?_) w hw (p q) q ⟨hq, rfl⟩
  ·obtain ⟨e1, rfl⟩ := e
   obtain ⟨q', h1, h2, h3, h4⟩ := h.cls (p q) (hC.ok.lt e1 e1)
   have := (hC.st q' q h1 e1 h2).1
   simp only [List.getD_eq_getElem?_getD, h3, this]
  ·obtain ⟨e1, rfl⟩ := e
   obtain ⟨q', h1, h2, h3, h4⟩ := h.cls (p q) (hC.ok.lt e1 e1)
   have h5 := (hC.st q' q h1 e1 h2).2 x hx
   have h6 : stepR nx' (p q) x = p (stepR nxt q' x) := stepR_at h4 (tab_get _ hx)
   exact ⟨(hD.rt.step e1 hx).1, by rw [h6, h5]⟩
theorem QuI.dis {L n s : Nat} {bs : List Bool} {nxt : List (List Int)} {p : Nat → Nat} {bs' : List Bool} {nx' : List (List Int)} (hD : DfL L n s bs nxt) (hC : ClG L n bs nxt p) (h : QuI L bs nxt p bs' nx' n) : Dis L (cv p n) bs' nx' := fun i j hi hj e => by
 obtain ⟨q, h1, rfl, -⟩ := h.cls i hi
 obtain ⟨r, h3, rfl, -⟩ := h.cls j hj
 have hl := (h.fin hD hC).2
 exact hC.co q r h1 h3 (fun w hw => by rw [← hl w hw q h1, ← hl w hw r h3, e w hw])
end Go.Proofs.YtnffigeofdagfaaDoor.M
