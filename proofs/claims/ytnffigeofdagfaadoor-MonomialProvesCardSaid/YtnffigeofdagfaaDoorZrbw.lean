/-
  Plain law: words of the monomials turned round; what Right and Left give has the words of the language, each in one monomial.
-/
import Derived.Test.YtnffigeofdagfaaDoorZray
import Derived.Test.YtnffigeofdagfaaDoorZrbv
namespace Go.Proofs.YtnffigeofdagfaaDoor.M
open Go.RowKit
set_option linter.unusedVariables false
set_option linter.unusedSimpArgs false

def stM (m : Mo) (p a r : Nat) : Prop := (r = p ∧ (m.1.getD p 0).testBit a = true) ∨ (r = p + 1 ∧ p < m.2.length ∧ m.2.getD p 6 = a)
def rcM (m : Mo) : List Nat → Nat → Nat → Prop
 | [], p, q => p = q
 | a :: w, p, q => ∃ r, stM m p a r ∧ rcM m w r q
theorem accM_rc (m : Mo) : ∀ (w : List Nat) (p : Nat), accM m w p = true ↔ rcM m w p m.2.length
 | [], p => by simp [accM, rcM]
 | a :: w, p => by
  have h1 := accM_rc m w p
  have h2 := accM_rc m w (p + 1)
  simp only [accM, rcM, stM, Bool.or_eq_true, Bool.and_eq_true, decide_eq_true_eq]
  constructor
  ·rintro (⟨g1, g2⟩ | ⟨⟨g1, g2⟩, g3⟩)
   ·exact ⟨p, .inl ⟨rfl, g1⟩, h1.1 g2⟩
   ·exact ⟨p + 1, .inr ⟨rfl, g2, g1⟩, h2.1 g3⟩
  ·rintro ⟨r, ⟨rfl, g1⟩ | ⟨rfl, g1, g2⟩, g3⟩
   ·exact .inl ⟨g1, h1.2 g3⟩
   ·exact .inr ⟨⟨g2, g1⟩, h2.2 g3⟩
theorem rcM_snoc (m : Mo) (a : Nat) {q r : Nat} : ∀ (w : List Nat) (p : Nat), rcM m w p r → stM m r a q → rcM m (w ++ [a]) p q
 | [], p, h, g => by
  have h : p = r := h
  subst h
  exact ⟨q, g, rfl⟩
 | b :: w, p, ⟨t, h1, h2⟩, g => ⟨t, h1, rcM_snoc m a w t h2 g⟩
theorem stM_turn {m : Mo} (hs : m.1.length = m.2.length + 1) {p a r : Nat} (hp : p ≤ m.2.length) (h : stM m p a r) : r ≤ m.2.length ∧ stM (trnM m) (m.2.length - r) a (m.2.length - p) := by
 rcases h with ⟨rfl, h⟩ | ⟨rfl, h1, h2⟩
 ·refine ⟨hp, .inl ⟨rfl, ?_⟩⟩
  simp only [trnM]
  rw [rev_getD (by omega)]
  rw [List.getD_eq_getElem?_getD, List.getElem?_eq_getElem (by omega), Option.getD_some] at h
  have e : m.1.length - 1 - (m.2.length - r) = r := by omega
  simp only [e]
  exact h
 ·refine ⟨by omega, .inr ⟨by omega, by simp [trnM]; omega, ?_⟩⟩
  simp only [trnM]
  rw [rev_getD (by omega)]
  rw [List.getD_eq_getElem?_getD, List.getElem?_eq_getElem (by omega), Option.getD_some] at h2
  have e : m.2.length - 1 - (m.2.length - (p + 1)) = p := by omega
  simp only [e]
  exact h2
theorem rcM_turn {m : Mo} (hs : m.1.length = m.2.length + 1) {q : Nat} : ∀ (w : List Nat) (p : Nat), p ≤ m.2.length → rcM m w p q → q ≤ m.2.length ∧ rcM (trnM m) w.reverse (m.2.length - q) (m.2.length - p)
 | [], p, hp, h => by
  have h : p = q := h
  subst h
  exact ⟨hp, rfl⟩
 | a :: w, p, hp, ⟨r, h1, h2⟩ => by
  obtain ⟨g1, g2⟩ := stM_turn hs hp h1
  obtain ⟨g3, g4⟩ := rcM_turn hs w r g1 h2
  refine ⟨g3, ?_⟩
  rw [List.reverse_cons]
  exact rcM_snoc _ a _ _ g4 g2
theorem accM_turn1 {m : Mo} (hs : m.1.length = m.2.length + 1) (w : List Nat) (h : accM m w 0 = true) : accM (trnM m) w.reverse 0 = true := by
 have h1 := (rcM_turn hs w 0 (by omega) ((accM_rc m w 0).1 h)).2
 rw [Nat.sub_self, Nat.sub_zero] at h1
 refine (accM_rc _ _ _).2 ?_
 simpa [trnM] using h1
theorem trnM_trnM (m : Mo) : trnM (trnM m) = m := by simp [trnM]
theorem accM_turn {m : Mo} (hs : m.1.length = m.2.length + 1) (w : List Nat) : accM (trnM m) w 0 = accM m w.reverse 0 := by
 rw [Bool.eq_iff_iff]
 constructor
 ·intro h
  have := accM_turn1 (m := trnM m) (by simp [trnM, hs]) w h
  rwa [trnM_trnM] at this
 ·intro h
  have := accM_turn1 hs w.reverse h
  rwa [List.reverse_reverse] at this
structure PrvL (left : Bool) (L s : Nat) (bs : List Bool) (nxt : List (List Int)) (ms : List Mo) : Prop where
 len : ms.length ≤ 400
 ok : ∀ m ∈ ms, MoOK L 60 m
 det : left = false → ∀ m ∈ ms, ∀ k (h1 : k < m.1.length) (h2 : k < m.2.length), m.1[k].testBit m.2[k] = false
 cod : left = true → ∀ m ∈ ms, ∀ k (h1 : k + 1 < m.1.length) (h2 : k < m.2.length), m.1[k + 1].testBit m.2[k] = false
 dis : ∀ j i (hj : j < ms.length) (hi : i < j), ∃ R, MeR ms[i] ms[j] R
 cnt : ∀ w : List Nat, (∀ a ∈ w, a < L) → ms.countP (fun p => accM p w 0) = if accR bs nxt s w = true then 1 else 0
theorem prv_paths {L m s : Nat} {bs : List Bool} {nx : List (List Int)} (hD : DfL L m s bs nx) (hA : Acy L m nx) (hF : Fits 0 0 (pX L m bs nx 0)) (hm : 0 < m) : PrvL false L 0 bs nx (pX L m bs nx 0) := by
 have hP : ∀ p ∈ pX L m bs nx 0, Pth L bs nx 0 p := fun p hp => pth_Pth L bs nx _ _ p hp
 refine ⟨by have := hF.1; omega, fun p hp => (hP p hp).ok (by have := hF.2 p hp; omega), fun _ p hp => (hP p hp).det, fun h => (by cases h), fun j i hj hi => ?_, fun w hw => pX_count hD hA w hw 0 hm⟩
 refine ⟨_, (hP _ (List.getElem_mem _)).meR (hP _ (List.getElem_mem hj)) ?_⟩
 have hn : ((pX L m bs nx 0).map Prod.snd).Nodup := pth_nodup L bs nx (m + 1) 0
 intro he
 have h1 : i < ((pX L m bs nx 0).map Prod.snd).length := by rw [List.length_map]; omega
 have h2 : j < ((pX L m bs nx 0).map Prod.snd).length := by rw [List.length_map]; omega
 exact List.pairwise_iff_getElem.1 hn i j h1 h2 hi (by rw [List.getElem_map, List.getElem_map]; exact he)
theorem prv_turned {L m s : Nat} {bs : List Bool} {nx : List (List Int)} (hD : DfL L m s bs nx) (hA : Acy L m nx) (hF : Fits 0 0 (pX L m bs nx 0)) (hm : 0 < m) {bs0 : List Bool} {nx0 : List (List Int)} {s0 : Nat} (hacc : ∀ w : List Nat, (∀ a ∈ w, a < L) → accR bs nx 0 w = accR bs0 nx0 s0 w.reverse) : PrvL true L s0 bs0 nx0 ((pX L m bs nx 0).map turnM) := by
 have hP : ∀ p ∈ pX L m bs nx 0, Pth L bs nx 0 p := fun p hp => pth_Pth L bs nx _ _ p hp
 have ht : ∀ p, turnM p = trnM p := fun p => rfl
 refine ⟨by have := hF.1; simp; omega, fun p hp => ?_, fun h => (by cases h), fun _ p hp => ?_, fun j i hj hi => ?_, fun w hw => ?_⟩
 ·obtain ⟨q, hq, rfl⟩ := List.mem_map.1 hp
  exact (hP q hq).okT (by have := hF.2 q hq; omega)
 ·obtain ⟨q, hq, rfl⟩ := List.mem_map.1 hp
  exact (hP q hq).codet
 ·rw [List.length_map] at hj
  rw [List.getElem_map, List.getElem_map, ht, ht]
  refine ⟨_, (hP _ (List.getElem_mem _)).meT (hP _ (List.getElem_mem hj)) ?_⟩
  have hn : ((pX L m bs nx 0).map Prod.snd).Nodup := pth_nodup L bs nx (m + 1) 0
  intro he
  have h1 : i < ((pX L m bs nx 0).map Prod.snd).length := by rw [List.length_map]; omega
  have h2 : j < ((pX L m bs nx 0).map Prod.snd).length := by rw [List.length_map]; omega
  exact List.pairwise_iff_getElem.1 hn i j h1 h2 hi (by rw [List.getElem_map, List.getElem_map]; exact he)
 ·have hw' : ∀ a ∈ w.reverse, a < L := fun a ha => hw a (by simpa using ha)
  rw [List.countP_map, ← show accR bs nx 0 w.reverse = accR bs0 nx0 s0 w by rw [hacc _ hw', List.reverse_reverse], ← pX_count hD hA w.reverse hw' 0 hm]
  refine List.countP_congr (fun p hp => ?_)
  simp only [Function.comp, ht]
  rw [accM_turn (hP p hp).sl]
theorem rightV_fn {L n s : Nat} {bs : List Bool} {nxt : List (List Int)} (h : DfL L n s bs nxt) (hL : 1 ≤ L) (hL2 : L ≤ 6) (hn : n ≤ 512) : ∃ l e, ((e = 0 ∧ PrvL false L s bs nxt l) ∨ ((e = 3 ∨ e = 20) ∧ l = [])) ∧ FnA Tryd.prog 18 [dfT 0 L s bs nxt] (monR (l, e)) := by
 obtain ⟨m, b2, nx, hX, h⟩ := right_fn h hL hL2 hn
 by_cases hA : Acy L m nx
 ·by_cases hF : Fits 0 0 (pX L m b2 nx 0)
  ·rw [rightP_ok hA hF] at h
   have hP := prv_paths hX.mn.df hA hF hX.mn.df.st
   refine ⟨_, _, .inl ⟨rfl, hP.len, hP.ok, hP.det, hP.cod, hP.dis, fun w hw => ?_⟩, h⟩
   rw [hP.cnt w hw, hX.lang w hw]
  ·rw [rightP_lim hA hF] at h
   exact ⟨_, _, .inr ⟨.inl rfl, rfl⟩, h⟩
 ·rw [rightP_cyc hA] at h
  exact ⟨_, _, .inr ⟨.inr rfl, rfl⟩, h⟩
theorem leftV_fn {L n s : Nat} {bs : List Bool} {nxt : List (List Int)} (h : DfL L n s bs nxt) (hL : 1 ≤ L) (hL2 : L ≤ 6) (hn : n ≤ 9) : ∃ l e, ((e = 0 ∧ PrvL true L s bs nxt l) ∨ ((e = 3 ∨ e = 20) ∧ l = [])) ∧ FnA Tryd.prog 20 [dfT 0 L s bs nxt] (monR (l, e)) := by
 obtain ⟨r1, ⟨m, b1, nx, m2, b2, nx2, hX, hR, c1⟩, k1⟩ := left0_fn h hL hL2 hn (fun m b nx l hp => shrt_of hp)
 have k2 : FnA Tryd.prog 20 [dfT 0 L s bs nxt] (monR (leftR (rightP L m2 b2 nx2))) := by
  rcases c1 with rfl | ⟨e', e1, rfl⟩
  ·exact k1
  ·rw [e1]
   exact k1.resX fun E v => monE_R
 clear c1 k1
 have hD2 := hR.1.df
 by_cases hA : Acy L m2 nx2
 ·by_cases hF : Fits 0 0 (pX L m2 b2 nx2 0)
  ·rw [rightP_ok hA hF] at k2
   refine ⟨_, _, .inl ⟨rfl, prv_turned hD2 hA hF hD2.st (fun w hw => ?_)⟩, k2⟩
   rw [hR.2.2 w hw, hX.lang w.reverse (fun a ha => hw a (by simpa using ha))]
  ·rw [rightP_lim hA hF] at k2
   exact ⟨_, _, .inr ⟨.inl rfl, rfl⟩, k2⟩
 ·rw [rightP_cyc hA] at k2
  exact ⟨_, _, .inr ⟨.inr rfl, rfl⟩, k2⟩
end Go.Proofs.YtnffigeofdagfaaDoor.M
