/-
  The automaton of the sets of places in plain Lean: its language, and that it has at most 512 classes.
-/
import Derived.Test.YtnffigeofdagfaaDoorZmay
import Derived.Test.YtnffigeofdagfaaDoorZmar
namespace Go.Proofs.YtnffigeofdagfaaDoor.M
open Go.RowKit
set_option linter.unusedVariables false
set_option linter.unusedSimpArgs false

theorem DtI.at {L : Nat} {ps : List PL} {ev : Int} {s0 : Nat} {ss nx : List Nat} {fb : List Bool} (h : DtI L ps ev s0 ss nx fb ss.length 0 ss.length) {i a s : Nat} (ha : a < L) (hs : ss[i]? = some s) :
  ∃ t u, nx[i * L + a]? = some t ∧ NxR ps ev s a u ∧ ss[t]? = some u := by
 have hi := (List.getElem?_eq_some_iff.1 hs).1
 obtain ⟨t, x, u, h1, h2, h3, h4⟩ := h.nxt i a ha (by
  rw [h.nl]
  have : (i + 1) * L ≤ ss.length * L := Nat.mul_le_mul_right _ hi
  rw [Nat.add_mul] at this
  omega)
 rw [hs] at h2
 injection h2 with h2
 subst h2
 exact ⟨t, u, h1, h3, h4⟩
theorem NxR.LS {L : Nat} {ps : List PL} {ev : Int} (hpl : PlI L ps) (hev : EvI L ps ev) {s a u : Nat} (h : NxR ps ev s a u) {w : List Nat} (hw : ∀ b ∈ w, b < L) : LS ps u w ↔ LS ps s (a :: w) := by
 obtain ⟨s', h3, rfl⟩ := h
 rw [LS_nrm hev hw, LS_step hpl h3]
theorem DtI.acc {L : Nat} {ps : List PL} {ev : Int} {s0 : Nat} {ss nx : List Nat} {fb : List Bool} (h : DtI L ps ev s0 ss nx fb ss.length 0 ss.length) (hpl : PlI L ps) (hev : EvI L ps ev) :
  ∀ (w : List Nat) (i s : Nat), (∀ a ∈ w, a < L) → ss[i]? = some s → (accN nx fb L i w = true ↔ LS ps s w)
 | [], i, s, _, hs => by
  have h1 := h.fin i s (List.getElem?_eq_some_iff.1 hs).1 hs
  rw [LS_nil, accN, walkN, List.getD_eq_getElem?_getD, h1, Option.getD_some, decide_eq_true_eq]
 | a :: w, i, s, hw, hs => by
  obtain ⟨t, u, h1, h2, h3⟩ := h.at (hw a (by simp)) hs
  have e : nx.getD (i * L + a) 0 = t := by rw [List.getD_eq_getElem?_getD, h1]; rfl
  have hw' : ∀ b ∈ w, b < L := fun b hb => hw b (by simp [hb])
  rw [← h2.LS hpl hev hw', ← h.acc hpl hev w t u hw' h3, accN, walkN, e]
  rfl
theorem DtI.reach {L : Nat} {ps : List PL} {ev : Int} {s0 : Nat} {ss nx : List Nat} {fb : List Bool} (h : DtI L ps ev s0 ss nx fb ss.length 0 ss.length) (hpl : PlI L ps) (hev : EvI L ps ev) {w : List Nat} {i : Nat} (hr : RchN nx L w i) :
  ∃ s, ss[i]? = some s ∧ ∀ u, (∀ a ∈ u, a < L) → (LS ps s u ↔ LS ps s0 (w ++ u)) := by
 induction hr with
 | nil => exact ⟨s0, h.z, fun u _ => Iff.rfl⟩
 | @step w i a t hr ha ht ih =>
  obtain ⟨s, hs, hi⟩ := ih
  obtain ⟨t', u, h1, h2, h3⟩ := h.at ha hs
  rw [ht] at h1
  injection h1 with h1
  subst h1
  refine ⟨u, h3, fun v hv => ?_⟩
  rw [h2.LS hpl hev hv, hi (a :: v) (fun b hb => by
   rcases List.mem_cons.1 hb with rfl | hb
   ·exact ha
   ·exact hv b hb), List.append_assoc]
  rfl
theorem MoOK.two {L : Nat} (hL : L = 1 ∨ L = 2) {m : Mo} (h : MoOK L 3 m) : MoOK 2 3 m := by
 have e : 2 ^ L ≤ 2 ^ 2 := Nat.pow_le_pow_right (by omega) (by omega)
 exact ⟨h.sl, h.ll, fun x hx => by have := h.sv x hx; omega, fun x hx => by have := h.lv x hx; omega⟩
theorem three {ms : List Mo} (h : ∀ m ∈ ms, MoOK 2 3 m) (hl : ms.length ≤ 3) : ∃ m1 m2 m3, MoOK 2 3 m1 ∧ MoOK 2 3 m2 ∧ MoOK 2 3 m3 ∧ ∀ m ∈ ms, m = m1 ∨ m = m2 ∨ m = m3 := by
 have h0 : MoOK 2 3 ([0], []) := ⟨rfl, by simp, fun x hx => by simp only [List.mem_singleton] at hx; omega, fun x hx => by simp at hx⟩
 match ms, hl with
 | [], _ => exact ⟨_, _, _, h0, h0, h0, by simp⟩
 | [a], _ => exact ⟨a, _, _, h a (by simp), h0, h0, by simp⟩
 | [a, b], _ => exact ⟨a, b, _, h a (by simp), h b (by simp), h0, by simp⟩
 | [a, b, c], _ => exact ⟨a, b, c, h a (by simp), h b (by simp), h c (by simp), by simp⟩
theorem DtI.lang {L : Nat} {ps : List PL} {ev : Int} {fs ss nx : List Nat} {fb : List Bool} {ms : List Mo} (hA : AllI L ms ps ev fs) (h : DtI L ps ev (nrmP ev (ofL fs)) ss nx fb ss.length 0 ss.length) {w u : List Nat} {i : Nat} (hr : RchN nx L w i) (hu : ∀ a ∈ u, a < L) :
  accN nx fb L i u = true ↔ ∃ m ∈ ms, accM m (w ++ u) 0 = true := by
 obtain ⟨s, hs, hi⟩ := h.reach hA.pl hA.ev hr
 have hw := hr.lt
 rw [h.acc hA.pl hA.ev u i s hu hs, hi u hu, LS_nrm hA.ev (fun a ha => by
  rcases List.mem_append.1 ha with ha | ha
  ·exact hw a ha
  ·exact hu a ha), hA.start]
theorem few_classes {L : Nat} (hL : L = 1 ∨ L = 2) {ps : List PL} {ev : Int} {fs ss nx : List Nat} {fb : List Bool} {ms : List Mo} (hms : ∀ m ∈ ms, MoOK L 3 m) (hl : ms.length ≤ 3) (hA : AllI L ms ps ev fs) (h : DtI L ps ev (nrmP ev (ofL fs)) ss nx fb ss.length 0 ss.length)
  {c : Nat → Nat} {k : Nat} (hc : ClI nx fb L ss.length c k) : k ≤ 512 := by
 obtain ⟨m1, m2, m3, g1, g2, g3, hm⟩ := three (fun m h => (hms m h).two hL) hl
 have hex : ∀ t, t < k → ∃ p : Nat × List Nat, p.1 < ss.length ∧ c p.1 = t ∧ RchN nx L p.2 p.1 := fun t ht => by
  obtain ⟨i, h1, h2⟩ := hc.part.sur t ht
  obtain ⟨w, hw⟩ := h.rch i h1
  exact ⟨(i, w), h1, h2, hw⟩
 have hr : ∃ rep : Nat → Nat × List Nat, ∀ t, t < k → (rep t).1 < ss.length ∧ c (rep t).1 = t ∧ RchN nx L (rep t).2 (rep t).1 := by
  refine ⟨fun t => if ht : t < k then (hex t ht).choose else (0, []), fun t ht => ?_⟩
  simp only [dif_pos ht]
  exact (hex t ht).choose_spec
 obtain ⟨rep, hrep⟩ := hr
 have hlt : ∀ t, t < k → ∀ a ∈ (rep t).2, a < 2 := fun t ht a ha => by
  have := (hrep t ht).2.2.lt a ha
  omega
 have hnd : ((List.range k).map fun t => (cW m1 (rep t).2, cW m2 (rep t).2, cW m3 (rep t).2)).Nodup := by
  have h0 : ((List.range k).map fun t => t).Nodup := by rw [List.map_id']; exact List.nodup_range
  refine map_nodup h0 fun x hx y hy e => ?_
  rw [List.mem_range] at hx hy
  obtain ⟨x1, x2, x3⟩ := hrep x hx
  obtain ⟨y1, y2, y3⟩ := hrep y hy
  simp only [Prod.mk.injEq] at e
  have hle : LEq nx fb L (rep x).1 (rep y).1 := fun u hu => by
   rw [Bool.eq_iff_iff, h.lang hA x3 hu, h.lang hA y3 hu]
   have hu2 : ∀ a ∈ u, a < 2 := fun a ha => by have := hu a ha; omega
   refine exists_congr fun m => and_congr_right fun hmm => ?_
   have hsl := (hms m hmm).sl
   rw [← LM_cW hsl (hlt x hx) hu2, ← LM_cW hsl (hlt y hy) hu2]
   rcases hm m hmm with rfl | rfl | rfl
   ·rw [e.1]
   ·rw [e.2.1]
   ·rw [e.2.2]
  have := hc.snd _ _ x1 y1 hle
  rw [x2, y2] at this
  exact this
 have := few512 g1 g2 g3 (ws := (List.range k).map fun t => (rep t).2) (fun w hw => by
  obtain ⟨t, ht, rfl⟩ := List.mem_map.1 hw
  exact hlt t (List.mem_range.1 ht)) (by rw [List.map_map]; exact hnd)
 simpa using this
end Go.Proofs.YtnffigeofdagfaaDoor.M
