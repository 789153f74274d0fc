/-
  Plain law: the monomials of the paths of an ordered automaton are deterministic, and no word belongs to two of them.
  Plain law: the same of the monomials turned round: codeterministic, no word in common.
  Plain law: a word that the automaton accepts belongs to exactly one path's monomial, any other to none.
-/
import Derived.Test.YtnffigeofdagfaaDoorZraw
import Derived.Test.YtnffigeofdagfaaDoorZrax
namespace Go.Proofs.YtnffigeofdagfaaDoor.M
open Go.RowKit
set_option linter.unusedVariables false
set_option linter.unusedSimpArgs false

theorem loopN_bit (nx : List (List Int)) (q a : Nat) : ∀ x, (loopN nx q x).testBit a = true → a < x ∧ stepR nx q a = q
 | 0, h => by simp [loopN] at h
 | x + 1, h => by
  unfold loopN at h
  split at h
  ·rename_i c
   rw [Nat.testBit_or, Bool.or_eq_true] at h
   rcases h with h | h
   ·obtain ⟨h1, h2⟩ := loopN_bit nx q a x h
    exact ⟨by omega, h2⟩
   ·rw [Nat.testBit_shiftLeft] at h
    simp only [Bool.and_eq_true, decide_eq_true_eq] at h
    have h0 : a - x = 0 := by
     by_cases e : a - x = 0
     ·exact e
     ·have := h.2
      rw [Nat.testBit_one_eq_true_iff_self_eq_zero] at this
      exact this
    obtain rfl : a = x := by omega
    exact ⟨by omega, c⟩
  ·obtain ⟨h1, h2⟩ := loopN_bit nx q a x h
   exact ⟨by omega, h2⟩
structure Pth (L : Nat) (bs : List Bool) (nx : List (List Int)) (q : Nat) (p : Mo) : Prop where
 sl : p.1.length = p.2.length + 1
 se : ∀ k (h : k < p.1.length), p.1[k] = loopN nx (walkR nx q (p.2.take k)) L
 lv : ∀ a ∈ p.2, a < L
 ne : ∀ k (h : k < p.2.length), stepR nx (walkR nx q (p.2.take k)) p.2[k] ≠ walkR nx q (p.2.take k)
 fi : bs.getD (walkR nx q p.2) false = true
theorem pth_Pth (L : Nat) (bs : List Bool) (nx : List (List Int)) : ∀ (f q : Nat) (p : Mo), p ∈ pth L bs nx f q → Pth L bs nx q p
 | 0, q, p, h => by simp [pth] at h
 | f + 1, q, p, h => by
  simp only [pth, List.mem_append, List.mem_flatMap, List.mem_range] at h
  rcases h with h | ⟨x, hx, h⟩
  ·split at h
   ·rename_i c
    simp only [List.mem_singleton] at h
    subst h
    refine ⟨rfl, fun k hk => ?_, fun a ha => by simp at ha, fun k hk => by simp at hk, c⟩
    have : k = 0 := by simp at hk; omega
    subst this
    rfl
   ·simp at h
  ·split at h
   ·simp at h
   ·rename_i c
    obtain ⟨r, hr, rfl⟩ := List.mem_map.1 h
    have ih := pth_Pth L bs nx f _ r hr
    refine ⟨by simp [conM, ih.sl], fun k hk => ?_, fun a ha => ?_, fun k hk => ?_, ih.fi⟩
    ·cases k with
     | zero => rfl
     | succ k => exact ih.se k (by simpa [conM] using hk)
    ·simp only [conM, List.mem_cons] at ha
     rcases ha with rfl | ha
     ·exact hx
     ·exact ih.lv a ha
    ·cases k with
     | zero => exact c
     | succ k => exact ih.ne k (by simpa [conM] using hk)
theorem Pth.det {L q : Nat} {bs : List Bool} {nx : List (List Int)} {p : Mo} (h : Pth L bs nx q p) (k : Nat) (h1 : k < p.1.length) (h2 : k < p.2.length) : p.1[k].testBit p.2[k] = false := by
 cases e : p.1[k].testBit p.2[k] with
 | false => rfl
 | true =>
  rw [h.se k h1] at e
  exact absurd (loopN_bit nx _ _ L e).2 (h.ne k h2)
theorem Pth.ok {L q most : Nat} {bs : List Bool} {nx : List (List Int)} {p : Mo} (h : Pth L bs nx q p) (hl : p.2.length ≤ most) : MoOK L most p :=
 ⟨h.sl, hl, fun v hv => by
  obtain ⟨k, hk, rfl⟩ := List.getElem_of_mem hv
  rw [h.se k hk]
  exact loopN_lt nx _ L, h.lv⟩
theorem pth_nodup (L : Nat) (bs : List Bool) (nx : List (List Int)) : ∀ (f q : Nat), ((pth L bs nx f q).map Prod.snd).Nodup
 | 0, q => by simp [pth]
 | f + 1, q => by
  have hsub : ∀ x, ((if stepR nx q x = q then [] else (pth L bs nx f (stepR nx q x)).map (conM (loopN nx q L) x)).map Prod.snd).Nodup := fun x => by
   split
   ·simp
   ·have h := pth_nodup L bs nx f (stepR nx q x)
    rw [List.map_map]
    have e : (Prod.snd ∘ conM (loopN nx q L) x) = (fun l => x :: l) ∘ Prod.snd := rfl
    rw [e, ← List.map_map]
    exact h.map _ (fun a b hab e => hab (by simpa using e))
  have hhd : ∀ x l, l ∈ (if stepR nx q x = q then [] else (pth L bs nx f (stepR nx q x)).map (conM (loopN nx q L) x)).map Prod.snd → l.head? = some x := fun x l hl => by
   split at hl
   ·simp at hl
   ·obtain ⟨p, hp, rfl⟩ := List.mem_map.1 hl
    obtain ⟨r, hr, rfl⟩ := List.mem_map.1 hp
    rfl
  unfold pth
  rw [List.map_append, List.map_flatMap]
  refine List.nodup_append.2 ⟨by split <;> simp, ?_, ?_⟩
  ·have : ∀ n, ((List.range n).flatMap fun x => (if stepR nx q x = q then [] else (pth L bs nx f (stepR nx q x)).map (conM (loopN nx q L) x)).map Prod.snd).Nodup := fun n => by
    induction n with
    | zero => simp
    | succ n ih =>
     rw [List.range_succ, List.flatMap_append]
     refine List.nodup_append.2 ⟨ih, by simpa using hsub n, ?_⟩
     intro a ha b hb hab
     subst hab
     obtain ⟨x, hx, hax⟩ := List.mem_flatMap.1 ha
     have e1 := hhd x a hax
     have e2 := hhd n a (by simpa using hb)
     rw [e1] at e2
     injection e2 with e2
     have := List.mem_range.1 hx
     omega
   exact this L
  ·intro a ha b hb hab
   subst hab
   obtain ⟨x, hx, hax⟩ := List.mem_flatMap.1 hb
   have e1 := hhd x a hax
   split at ha
   ·simp at ha
    subst ha
    simp at e1
   ·simp at ha
theorem Pth.meR {L q0 : Nat} {bs : List Bool} {nx : List (List Int)} {m n : Mo} (hm : Pth L bs nx q0 m) (hn : Pth L bs nx q0 n) (hne : m.2 ≠ n.2) : MeR m n (fun p q => p = q ∧ m.2.take p = n.2.take p) := by
 have set_at : ∀ (m : Mo), Pth L bs nx q0 m → ∀ p a, p < m.1.length → (m.1.getD p 0).testBit a = true → stepR nx (walkR nx q0 (m.2.take p)) a = walkR nx q0 (m.2.take p) := fun m hm p a hp h => by
  rw [List.getD_eq_getElem?_getD, List.getElem?_eq_getElem hp, Option.getD_some, hm.se p hp] at h
  exact (loopN_bit nx _ _ L h).2
 have let_at : ∀ (m : Mo), Pth L bs nx q0 m → ∀ p a, (hp : p < m.2.length) → m.2.getD p 6 = a → m.2[p] = a ∧ stepR nx (walkR nx q0 (m.2.take p)) a ≠ walkR nx q0 (m.2.take p) := fun m hm p a hp h => by
  rw [List.getD_eq_getElem?_getD, List.getElem?_eq_getElem hp, Option.getD_some] at h
  exact ⟨h, h ▸ hm.ne p hp⟩
 refine ⟨⟨rfl, rfl⟩, ?_, ?_, ?_, ?_⟩
 ·rintro p q a hp ha hb hq hl ⟨rfl, ht⟩
  have h1 := set_at m hm p a hp hb
  have h2 := (let_at n hn p a hq hl).2
  rw [ht] at h1
  exact absurd h1 h2
 ·rintro p q a hp hl hq hb ⟨rfl, ht⟩
  have h1 := set_at n hn p a (by have := hn.sl; omega) hb
  have h2 := (let_at m hm p a hp hl).2
  rw [ht] at h2
  exact absurd h1 h2
 ·rintro p q a hp hl hq hl2 ⟨rfl, ht⟩
  refine ⟨rfl, ?_⟩
  rw [List.take_succ_eq_append_getElem hp, List.take_succ_eq_append_getElem hq, ht, (let_at m hm p a hp hl).1, (let_at n hn p a hq hl2).1]
 ·rintro ⟨hl, ht⟩
  rw [List.take_length, hl, List.take_length] at ht
  exact hne ht

set_option linter.unusedSimpArgs false

def trnM (m : Mo) : Mo := (m.1.reverse, m.2.reverse)
theorem rev_getD {l : List Nat} {k d : Nat} (h : k < l.length) : l.reverse.getD k d = l[l.length - 1 - k] := by
 rw [List.getD_eq_getElem?_getD, List.getElem?_eq_getElem (by simpa using h), Option.getD_some, List.getElem_reverse]
section
variable {L q0 : Nat} {bs : List Bool} {nx : List (List Int)}
theorem Pth.set_at {m : Mo} (hm : Pth L bs nx q0 m) {p a : Nat} (hp : p < m.1.length) (h : m.1[p].testBit a = true) : stepR nx (walkR nx q0 (m.2.take p)) a = walkR nx q0 (m.2.take p) := by
 rw [hm.se p hp] at h
 exact (loopN_bit nx _ _ L h).2
theorem Pth.codet {m : Mo} (hm : Pth L bs nx q0 m) (k : Nat) (h1 : k + 1 < (trnM m).1.length) (h2 : k < (trnM m).2.length) : (trnM m).1[k + 1].testBit (trnM m).2[k] = false := by
 have hs := hm.sl
 have h2' : k < m.2.length := by simpa [trnM] using h2
 have e1 : (trnM m).1[k + 1] = m.1[m.2.length - 1 - k] := by
  simp only [trnM]
  rw [List.getElem_reverse]
  congr 1
  omega
 have e2 : (trnM m).2[k] = m.2[m.2.length - 1 - k] := by
  simp only [trnM]
  rw [List.getElem_reverse]
 rw [e1, e2]
 exact hm.det _ (by omega) (by omega)
theorem Pth.okT {most : Nat} {m : Mo} (h : Pth L bs nx q0 m) (hl : m.2.length ≤ most) : MoOK L most (trnM m) := by
 have := h.ok hl
 refine ⟨by simp [trnM, this.sl], by simpa [trnM] using hl, fun v hv => this.sv v (by simpa [trnM] using hv), fun v hv => this.lv v (by simpa [trnM] using hv)⟩
theorem Pth.meT {m n : Mo} (hm : Pth L bs nx q0 m) (hn : Pth L bs nx q0 n) (hne : m.2 ≠ n.2) : MeR (trnM m) (trnM n) (fun p q => ¬ (m.2.length - p = n.2.length - q ∧ m.2.take (m.2.length - p) = n.2.take (n.2.length - q))) := by
 have hms := hm.sl
 have hns := hn.sl
 have l1 : (trnM m).1.length = m.1.length := by simp [trnM]
 have l2 : (trnM m).2.length = m.2.length := by simp [trnM]
 have l3 : (trnM n).1.length = n.1.length := by simp [trnM]
 have l4 : (trnM n).2.length = n.2.length := by simp [trnM]
 refine ⟨?_, ?_, ?_, ?_, ?_⟩
 ·rintro ⟨h1, h2⟩
  simp only [Nat.sub_zero, List.take_length] at h2
  exact hne h2
 ·rintro p q a hp ha hb hq hl hR ⟨h1, h2⟩
  rw [l1] at hp
  rw [l4] at hq
  simp only [trnM] at hb hl
  rw [rev_getD hp] at hb
  rw [rev_getD hq] at hl
  have i1 : m.1.length - 1 - p = m.2.length - p := by omega
  have i2 : n.2.length - 1 - q = n.2.length - (q + 1) := by omega
  have k1 := hm.set_at (p := m.1.length - 1 - p) (by omega) hb
  have k2 := hn.ne (n.2.length - 1 - q) (by omega)
  rw [hl] at k2
  rw [i1] at k1
  rw [i2] at k2
  rw [h2] at k1
  exact k2 k1
 ·rintro p q a hp hl hq hb hR ⟨h1, h2⟩
  rw [l2] at hp
  rw [l4] at hq
  simp only [trnM] at hb hl
  rw [rev_getD (by omega)] at hb
  rw [rev_getD hp] at hl
  have i1 : m.2.length - 1 - p = m.2.length - (p + 1) := by omega
  have i2 : n.1.length - 1 - q = n.2.length - q := by omega
  have k1 := hn.set_at (p := n.1.length - 1 - q) (by omega) hb
  have k2 := hm.ne (m.2.length - 1 - p) (by omega)
  rw [hl] at k2
  rw [i1] at k2
  rw [i2] at k1
  rw [h2] at k2
  exact k2 k1
 ·rintro p q a hp hl hq hl2 hR ⟨h1, h2⟩
  rw [l2] at hp
  rw [l4] at hq
  simp only [trnM] at hl hl2
  rw [rev_getD hp] at hl
  rw [rev_getD hq] at hl2
  refine hR ⟨by omega, ?_⟩
  have i1 : m.2.length - p = m.2.length - 1 - p + 1 := by omega
  have i2 : n.2.length - q = n.2.length - 1 - q + 1 := by omega
  rw [i1, i2, List.take_succ_eq_append_getElem (by omega), List.take_succ_eq_append_getElem (by omega), hl, hl2]
  rw [show m.2.length - (p + 1) = m.2.length - 1 - p by omega, show n.2.length - (q + 1) = n.2.length - 1 - q by omega] at h2
  rw [h2]
 ·rw [l2, l4]
  intro h
  exact h ⟨by omega, by simp⟩
end
end Go.Proofs.YtnffigeofdagfaaDoor.M

namespace Go.Proofs.YtnffigeofdagfaaDoor.M
open Go.RowKit
set_option linter.unusedVariables false
set_option linter.unusedSimpArgs false

theorem loopN_has (nx : List (List Int)) (q a : Nat) : ∀ x, a < x → stepR nx q a = q → (loopN nx q x).testBit a = true
 | 0, h, _ => by omega
 | x + 1, h, e => by
  unfold loopN
  by_cases hax : a = x
  ·subst hax
   rw [if_pos e, Nat.testBit_or, Nat.testBit_shiftLeft]
   simp
  ·have := loopN_has nx q a x (by omega) e
   split
   ·rw [Nat.testBit_or, this, Bool.true_or]
   ·exact this
theorem accM_con (k x : Nat) (r : Mo) : ∀ (w : List Nat) (p : Nat), accM (conM k x r) w (p + 1) = accM r w p
 | [], p => by simp [accM, conM]
 | a :: w, p => by
  have h1 := accM_con k x r w p
  have h2 := accM_con k x r w (p + 1)
  simp only [accM]
  rw [h1, h2]
  simp [conM]
theorem cnt_one {P : Mo → Bool} {g : Nat → List Mo} {a : Nat} (h : ∀ x, x ≠ a → (g x).countP P = 0) : ∀ n, ((List.range n).flatMap g).countP P = if a < n then (g a).countP P else 0
 | 0 => by simp
 | n + 1 => by
  rw [List.range_succ, List.flatMap_append, List.countP_append, cnt_one h n]
  simp only [List.flatMap_cons, List.flatMap_nil, List.append_nil]
  by_cases e : n = a
  ·subst e
   rw [if_neg (by omega), if_pos (by omega)]
   omega
  ·rw [h n e]
   by_cases h2 : a < n
   ·rw [if_pos h2, if_pos (by omega)]; rfl
   ·rw [if_neg h2, if_neg (by omega)]
theorem pX_count {L m s : Nat} {bs : List Bool} {nx : List (List Int)} (hD : DfL L m s bs nx) (hA : Acy L m nx) : ∀ (w : List Nat), (∀ a ∈ w, a < L) → ∀ q, q < m → (pX L m bs nx q).countP (fun p => accM p w 0) = if accR bs nx q w = true then 1 else 0
 | [], _, q, hq => by
  rw [pX_eq hD hA hq]
  unfold pXL pthL
  rw [List.countP_append, cnt_one (a := L) (fun x _ => ?_) L, if_neg (Nat.lt_irrefl L)]
  ·show _ = if bs.getD q false = true then 1 else 0
   split <;> simp [accM]
  ·split
   ·rfl
   ·rw [List.countP_eq_zero]
    intro p hp
    obtain ⟨r, hr, rfl⟩ := List.mem_map.1 hp
    simp [accM, conM]
 | a :: w, hw, q, hq => by
  have ha := hw a (by simp)
  have hw' : ∀ b ∈ w, b < L := fun b hb => hw b (by simp [hb])
  have hst : stepR nx q a < m := (hD.rt.step hq ha).1
  have hacc : accR bs nx q (a :: w) = accR bs nx (stepR nx q a) w := rfl
  rw [hacc]
  by_cases e : stepR nx q a = q
  ·rw [e, ← pX_count hD hA w hw' q hq]
   refine List.countP_congr (fun p hp => ?_)
   have hP := pth_Pth L bs nx _ _ p hp
   have h1 : 0 < p.1.length := by rw [hP.sl]; omega
   have hb : (p.1.getD 0 0).testBit a = true := by
    rw [List.getD_eq_getElem?_getD, List.getElem?_eq_getElem h1, Option.getD_some, hP.se 0 h1]
    exact loopN_has nx _ a L ha e
   have hn : (decide (p.2.getD 0 6 = a) && decide (0 < p.2.length)) = false := by
    cases c : (decide (p.2.getD 0 6 = a) && decide (0 < p.2.length)) with
    | false => rfl
    | true =>
     simp only [Bool.and_eq_true, decide_eq_true_eq] at c
     have h2 := hP.ne 0 c.2
     rw [List.getD_eq_getElem?_getD, List.getElem?_eq_getElem c.2, Option.getD_some] at c
     rw [c.1] at h2
     exact absurd e h2
   simp only [accM]
   rw [hb, hn]
   simp
  ·have hlp : (loopN nx q L).testBit a = false := by
    cases c : (loopN nx q L).testBit a with
    | false => rfl
    | true => exact absurd (loopN_bit nx q a L c).2 e
   rw [← pX_count hD hA w hw' _ hst, pX_eq hD hA hq]
   unfold pXL pthL
   rw [List.countP_append, cnt_one (a := a) (fun x hx => ?_) L, if_pos ha, if_neg e]
   ·have h0 : (if bs.getD q false = true then [(([loopN nx q L], []) : Mo)] else []).countP (fun p => accM p (a :: w) 0) = 0 := by
     rw [List.countP_eq_zero]
     intro p hp
     split at hp
     ·simp only [List.mem_singleton] at hp
      subst hp
      simp [accM, hlp]
     ·simp at hp
    rw [h0, Nat.zero_add, List.countP_map]
    refine List.countP_congr (fun r hr => ?_)
    simp only [Function.comp, accM, accM_con]
    simp [conM, hlp]
   ·split
    ·rfl
    ·rw [List.countP_eq_zero]
     intro p hp
     obtain ⟨r, hr, rfl⟩ := List.mem_map.1 hp
     simp [accM, conM, hlp, hx]
end Go.Proofs.YtnffigeofdagfaaDoor.M
