/-
  Walks in my logic: MayLetters, Validate of automata, OfDFA, Access.
-/
import Derived.Test.YtnffigeofdagfaaDoorZmal
import Derived.Test.YtnffigeofdagfaaDoorZmam
namespace Go.Proofs.YtnffigeofdagfaaDoor.M
open Go.RowKit
set_option linter.unusedVariables false
set_option linter.unusedSimpArgs false

theorem DfL.rt {L n s : Nat} {bs : List Bool} {nxt : List (List Int)} (h : DfL L n s bs nxt) : RtOK L n nxt :=
 ⟨h.nl, fun i r hr => by
  obtain ⟨h1, h2⟩ := h.row r (List.mem_of_getElem? hr)
  refine ⟨h1, fun x j hx => ?_⟩
  obtain ⟨h3, h4⟩ := h2 j (List.mem_of_getElem? hx)
  exact ⟨j.toNat, by omega, by omega⟩⟩
def lets (n : Nat) (nxt : List (List Int)) (x : Nat) : List Int := tab n fun q => (stepR nxt q x : Int)
theorem DfL.gn {L n s : Nat} {bs : List Bool} {nxt : List (List Int)} (h : DfL L n s bs nxt) (hL : 1 ≤ L) (hL2 : L ≤ 6) (hn : n ≤ 32) : GnOK n (tab L (lets n nxt)) := by
 refine ⟨h.n1, hn, by simpa using hL, by simpa using hL2, fun g hg => ?_⟩
 simp only [tab, List.mem_map, List.mem_range] at hg
 obtain ⟨x, hx, rfl⟩ := hg
 refine ⟨by simp [lets], fun v hv => ?_⟩
 simp only [lets, tab, List.mem_map, List.mem_range] at hv
 obtain ⟨q, hq, rfl⟩ := hv
 have := (h.rt.step hq hx).1
 omega
theorem nodupLe {n : Nat} : ∀ {l : List Nat}, l.Nodup → (∀ x ∈ l, x < n) → l.length ≤ n := by
 induction n with
 | zero =>
  intro l _ h
  cases l with
  | nil => simp
  | cons a l => have := h a (by simp); omega
 | succ n ih =>
  intro l hd h
  by_cases hm : n ∈ l
  ·have h1 := ih (hd.erase n) (fun x hx => by
    have := h x (List.mem_of_mem_erase hx)
    have hne : x ≠ n := fun e => by subst e; exact (hd.not_mem_erase) hx
    omega)
   have := List.length_erase_of_mem hm
   have : 0 < l.length := List.length_pos_of_mem hm
   omega
  ·have := ih hd (fun x hx => by
    have := h x hx
    have hne : x ≠ n := fun e => hm (e ▸ hx)
    omega)
   omega
structure AcI (n L s : Nat) (nxt : List (List Int)) (ss : List Nat) (wds : List (List Nat)) (met : Nat → Bool) (i x : Nat) : Prop where
 nod : ss.Nodup
 rng : ∀ q ∈ ss, q < n
 fst : ss[0]? = some s
 met : ∀ q, q < n → (met q = true ↔ q ∈ ss)
 done : ∀ (j y : Nat) q, j < i → ss[j]? = some q → y < L → stepR nxt q y ∈ ss
 row : ∀ (y : Nat) q, y < x → ss[i]? = some q → stepR nxt q y ∈ ss
 wl : wds.length = ss.length
 wn : ∀ (j : Nat) w, wds[j]? = some w → w.length ≤ j
section
variable {n L s : Nat} {nxt : List (List Int)} {ss : List Nat} {wds : List (List Nat)} {met : Nat → Bool} {i x : Nat}
theorem AcI.start (hs : s < n) : AcI n L s nxt [s] [[]] (fun j => decide (j = s)) 0 0 :=
 ⟨by simp, fun q hq => by simp at hq; omega, rfl, fun q _ => by simp, fun j y q h => by omega, fun y q h => by omega, rfl, fun j w h => by cases j <;> simp at h; subst h; simp⟩
theorem AcI.len (h : AcI n L s nxt ss wds met i x) : ss.length ≤ n := nodupLe h.nod h.rng
theorem AcI.old (h : AcI n L s nxt ss wds met i x) {p : Nat} (hi : ss[i]? = some p) (hq : stepR nxt p x < n) (hm : met (stepR nxt p x) = true) : AcI n L s nxt ss wds met i (x + 1) :=
 ⟨h.nod, h.rng, h.fst, h.met, h.done, fun y q hy hq2 => by
  by_cases e : y = x
  ·subst e
   rw [hi] at hq2
   injection hq2 with hq2
   subst hq2
   exact (h.met _ hq).1 hm
  ·exact h.row y q (by omega) hq2, h.wl, h.wn⟩
theorem AcI.add (h : AcI n L s nxt ss wds met i x) {p : Nat} (hi : ss[i]? = some p) (hq : stepR nxt p x < n) (hm : met (stepR nxt p x) = false) {w : List Nat} (hw : wds[i]? = some w) : AcI n L s nxt (ss ++ [stepR nxt p x]) (wds ++ [w ++ [x]]) (fun j => if j = stepR nxt p x then true else met j) i (x + 1) := by
 have hni : stepR nxt p x ∉ ss := fun hc => by rw [(h.met _ hq).2 hc] at hm; cases hm
 have hil := (List.getElem?_eq_some_iff.1 hi).1
 have key : ∀ (j : Nat) q, j ≤ i → (ss ++ [stepR nxt p x])[j]? = some q → ss[j]? = some q := fun j q hj hq => by rwa [List.getElem?_append_left (by omega)] at hq
 refine ⟨?_, fun q hqm => ?_, by rw [List.getElem?_append_left (by omega)]; exact h.fst, fun q hqn => ?_, fun j y q hj hjl hy => List.mem_append_left _ (h.done j y q hj (key j q (by omega) hjl) hy), fun y q hy hiq => ?_, by simp [h.wl], fun j u hu => ?_⟩
 ·rw [List.nodup_append]
  exact ⟨h.nod, by simp, fun a ha b hb => by simp at hb; subst hb; exact fun e => hni (e ▸ ha)⟩
 ·rcases List.mem_append.1 hqm with hqm | hqm
  ·exact h.rng q hqm
  ·simp at hqm; omega
 ·by_cases e : q = stepR nxt p x
  ·simp [e]
  ·simp [e, h.met q hqn]
 ·have hiq2 := key i q (Nat.le_refl _) hiq
  by_cases e : y = x
  ·subst e
   rw [hi] at hiq2
   injection hiq2 with hiq2
   rw [← hiq2]
   simp
  ·exact List.mem_append_left _ (h.row y q (by omega) hiq2)
 ·by_cases hjl : j < wds.length
  ·rw [List.getElem?_append_left hjl] at hu; exact h.wn j u hu
  ·have := (List.getElem?_eq_some_iff.1 hu).1
   simp at this
   have e : j = wds.length := by omega
   subst e
   simp at hu
   subst hu
   have := h.wn i w hw
   have := h.wl
   simp; omega
theorem AcI.next (h : AcI n L s nxt ss wds met i L) : AcI n L s nxt ss wds met (i + 1) 0 :=
 ⟨h.nod, h.rng, h.fst, h.met, fun j y q hj hjl hy => by
  by_cases e : j = i
  ·subst e; exact h.row y q hy hjl
  ·exact h.done j y q (by omega) hjl hy, fun y q hy => by omega, h.wl, h.wn⟩
end
end Go.Proofs.YtnffigeofdagfaaDoor.M
