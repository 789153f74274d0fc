/-
  Automata in plain Lean: what a search over the states gives, and what the quotient by a congruence gives.
  Walks in my logic: numbering, explore, Trim (dfa).
  Walks in my logic: Trim (dfa), Classes (minimize).
-/
import Derived.Test.YtnffigeofdagfaaDoorZmar
import Derived.Test.YtnffigeofdagfaaDoorZmap
namespace Go.Proofs.YtnffigeofdagfaaDoor.M
open Go.RowKit
set_option linter.unusedVariables false
set_option linter.unusedSimpArgs false

theorem stepR_at {nx : List (List Int)} {j y t : Nat} {r : List Int} (h1 : nx[j]? = some r) (h2 : r[y]? = some (t : Int)) : stepR nx j y = t := by
 simp [stepR, List.getD_eq_getElem?_getD, h1, h2]
theorem accR_corr {L : Nat} {bs bs' : List Bool} {nxt nx' : List (List Int)} (f : Nat → Nat → Prop)
  (h1 : ∀ i q, f i q → bs'.getD i false = bs.getD q false) (h2 : ∀ i q x, f i q → x < L → f (stepR nx' i x) (stepR nxt q x)) :
  ∀ (w : List Nat), (∀ a ∈ w, a < L) → ∀ i q, f i q → accR bs' nx' i w = accR bs nxt q w
 | [], _, i, q, h => h1 i q h
 | a :: w, hw, i, q, h => accR_corr f h1 h2 w (fun b hb => hw b (by simp [hb])) _ _ (h2 i q a h (hw a (by simp)))
def RowI (nxt : List (List Int)) (ss : List Nat) (q : Nat) (r : List Int) (x : Nat) : Prop := ∀ y, y < x → ∃ t : Nat, r[y]? = some (t : Int) ∧ ss[t]? = some (stepR nxt q y)
theorem RowI.app {nxt : List (List Int)} {ss : List Nat} {q : Nat} {r : List Int} {x : Nat} (h : RowI nxt ss q r x) (ys : List Nat) : RowI nxt (ss ++ ys) q r x := fun y hy => by
 obtain ⟨t, h1, h2⟩ := h y hy
 exact ⟨t, h1, by rw [List.getElem?_append_left (List.getElem?_eq_some_iff.1 h2).1]; exact h2⟩
theorem RowI.set {nxt : List (List Int)} {ss : List Nat} {q : Nat} {r : List Int} {x t : Nat} (h : RowI nxt ss q r x) (hx : x < r.length) (ht : ss[t]? = some (stepR nxt q x)) : RowI nxt ss q (r.set x (t : Int)) (x + 1) := fun y hy => by
 by_cases e : y = x
 ·subst e
  exact ⟨t, by rw [List.getElem?_set_self hx], ht⟩
 ·obtain ⟨u, h1, h2⟩ := h y (by omega)
  exact ⟨u, by rw [List.getElem?_set_ne (by omega)]; exact h1, h2⟩
structure ExI (L n s : Nat) (bs : List Bool) (nxt : List (List Int)) (ss : List Nat) (bs' : List Bool) (nx' : List (List Int)) (i : Nat) : Prop where
 nd : ss.Nodup
 z : ss[0]? = some s
 lt : ∀ q ∈ ss, q < n
 bl : bs'.length = i
 nl : nx'.length = i
 le : i ≤ ss.length
 row : ∀ (j : Nat) q, j < i → ss[j]? = some q → bs'[j]? = bs[q]? ∧ ∃ r, nx'[j]? = some r ∧ r.length = L ∧ RowI nxt ss q r L
theorem ExI.start {L n s : Nat} {bs : List Bool} {nxt : List (List Int)} (h : s < n) : ExI L n s bs nxt [s] [] [] 0 :=
 ⟨by simp, rfl, fun q hq => by simp only [List.mem_singleton] at hq; rw [hq]; exact h, rfl, rfl, by simp, fun j q hj => by omega⟩
theorem ExI.app {L n s : Nat} {bs : List Bool} {nxt : List (List Int)} {ss : List Nat} {bs' : List Bool} {nx' : List (List Int)} {i : Nat} (h : ExI L n s bs nxt ss bs' nx' i) {q : Nat} (hq : q < n) (hn : q ∉ ss) : ExI L n s bs nxt (ss ++ [q]) bs' nx' i := by
 refine ⟨List.nodup_append.2 ⟨h.nd, by simp, fun x hx y hy => by
  simp only [List.mem_singleton] at hy
  subst hy
  intro e
  exact hn (e ▸ hx)⟩, by rw [List.getElem?_append_left (List.getElem?_eq_some_iff.1 h.z).1]; exact h.z, fun x hx => ?_, h.bl, h.nl, by have := h.le; simp; omega, fun j p hj hp => ?_⟩
 ·rcases List.mem_append.1 hx with hx | hx
  ·exact h.lt x hx
  ·simp only [List.mem_singleton] at hx
   rw [hx]; exact hq
 ·rw [List.getElem?_append_left (by have := h.le; omega)] at hp
  obtain ⟨h1, r, h2, h3, h4⟩ := h.row j p hj hp
  exact ⟨h1, r, h2, h3, h4.app _⟩
theorem ExI.done {L n s : Nat} {bs : List Bool} {nxt : List (List Int)} {ss : List Nat} {bs' : List Bool} {nx' : List (List Int)} {i q : Nat} {r : List Int} {b : Bool} (h : ExI L n s bs nxt ss bs' nx' i) (hq : ss[i]? = some q) (hb : bs[q]? = some b) (hr : r.length = L) (hR : RowI nxt ss q r L) :
  ExI L n s bs nxt ss (bs' ++ [b]) (nx' ++ [r]) (i + 1) := by
 refine ⟨h.nd, h.z, h.lt, by simp [h.bl], by simp [h.nl], (List.getElem?_eq_some_iff.1 hq).1, fun j p hj hp => ?_⟩
 by_cases e : j = i
 ·subst e
  rw [hq] at hp
  injection hp with hp
  subst hp
  refine ⟨?_, r, ?_, hr, hR⟩
  ·rw [hb, List.getElem?_append_right (by rw [h.bl]; exact Nat.le_refl _), h.bl, Nat.sub_self]; rfl
  ·rw [List.getElem?_append_right (by rw [h.nl]; exact Nat.le_refl _), h.nl, Nat.sub_self]; rfl
 ·obtain ⟨h1, r', h2, h3, h4⟩ := h.row j p (by omega) hp
  refine ⟨?_, r', ?_, h3, h4⟩
  ·rw [List.getElem?_append_left (by rw [h.bl]; omega)]; exact h1
  ·rw [List.getElem?_append_left (by rw [h.nl]; omega)]; exact h2
theorem ExI.len {L n s : Nat} {bs : List Bool} {nxt : List (List Int)} {ss : List Nat} {bs' : List Bool} {nx' : List (List Int)} {i : Nat} (h : ExI L n s bs nxt ss bs' nx' i) : ss.length ≤ n := nodupLe h.nd h.lt
theorem ExI.fin {L n s : Nat} {bs : List Bool} {nxt : List (List Int)} {ss : List Nat} {bs' : List Bool} {nx' : List (List Int)} (h : ExI L n s bs nxt ss bs' nx' ss.length) : DfL L ss.length 0 bs' nx' ∧ ∀ w, (∀ a ∈ w, a < L) → accR bs' nx' 0 w = accR bs nxt s w := by
 have hp : 0 < ss.length := (List.getElem?_eq_some_iff.1 h.z).1
 refine ⟨⟨hp, hp, h.bl, h.nl, fun r hr => ?_⟩, fun w hw => ?_⟩
 ·obtain ⟨j, hj, e⟩ := List.getElem_of_mem hr
  have hj' : j < ss.length := by have := h.nl; omega
  obtain ⟨h1, r', h2, h3, h4⟩ := h.row j ss[j] hj' (by simp)
  rw [List.getElem?_eq_getElem hj] at h2
  injection h2 with h2
  rw [e] at h2
  subst h2
  refine ⟨h3, fun v hv => ?_⟩
  obtain ⟨y, hy, e⟩ := List.getElem_of_mem hv
  obtain ⟨t, g1, g2⟩ := h4 y (by omega)
  rw [List.getElem?_eq_getElem hy] at g1
  injection g1 with g1
  have := (List.getElem?_eq_some_iff.1 g2).1
  omega
 ·refine accR_corr (fun i q => ss[i]? = some q) (fun i q e => ?_) (fun i q x e hx => ?_) w hw 0 s h.z
  ·have := (h.row i q (List.getElem?_eq_some_iff.1 e).1 e).1
   simp only [List.getD_eq_getElem?_getD, this]
  ·obtain ⟨-, r, h2, h3, h4⟩ := h.row i q (List.getElem?_eq_some_iff.1 e).1 e
   obtain ⟨t, g1, g2⟩ := h4 x hx
   rw [stepR_at h2 g1]
   exact g2
structure QuI (L : Nat) (bs : List Bool) (nxt : List (List Int)) (p : Nat → Nat) (bs' : List Bool) (nx' : List (List Int)) (k : Nat) : Prop where
 bl : bs'.length = cv p k
 nl : nx'.length = cv p k
 cls : ∀ c, c < cv p k → ∃ q, q < k ∧ p q = c ∧ bs'[c]? = bs[q]? ∧ nx'[c]? = some (tab L fun x => (p (stepR nxt q x) : Int))
theorem QuI.start {L : Nat} {bs : List Bool} {nxt : List (List Int)} {p : Nat → Nat} : QuI L bs nxt p [] [] 0 := ⟨rfl, rfl, fun c hc => by simp [cv] at hc⟩
theorem QuI.old {L : Nat} {bs : List Bool} {nxt : List (List Int)} {p : Nat → Nat} {bs' : List Bool} {nx' : List (List Int)} {k : Nat} (h : QuI L bs nxt p bs' nx' k) (hk : p k ≠ cv p k) : QuI L bs nxt p bs' nx' (k + 1) := by
 have e : cv p (k + 1) = cv p k := by
  show (if p k = cv p k then cv p k + 1 else cv p k) = _
  rw [if_neg hk]
 exact ⟨by rw [e]; exact h.bl, by rw [e]; exact h.nl, fun c hc => by
  rw [e] at hc
  obtain ⟨q, h1, h2⟩ := h.cls c hc
  exact ⟨q, by omega, h2⟩⟩
theorem QuI.new {L : Nat} {bs : List Bool} {nxt : List (List Int)} {p : Nat → Nat} {bs' : List Bool} {nx' : List (List Int)} {k : Nat} {b : Bool} (h : QuI L bs nxt p bs' nx' k) (hk : p k = cv p k) (hb : bs[k]? = some b) : QuI L bs nxt p (bs' ++ [b]) (nx' ++ [tab L fun x => (p (stepR nxt k x) : Int)]) (k + 1) := by
 have e : cv p (k + 1) = cv p k + 1 := by
  show (if p k = cv p k then cv p k + 1 else cv p k) = _
  rw [if_pos hk]
 refine ⟨by simp [e, h.bl], by simp [e, h.nl], fun c hc => ?_⟩
 by_cases ec : c = cv p k
 ·refine ⟨k, by omega, by omega, ?_, ?_⟩
  ·rw [hb, List.getElem?_append_right (by rw [h.bl]; omega), h.bl, ec, Nat.sub_self]; rfl
  ·rw [List.getElem?_append_right (by rw [h.nl]; omega), h.nl, ec, Nat.sub_self]; rfl
 ·obtain ⟨q, h1, h2, h3, h4⟩ := h.cls c (by omega)
  refine ⟨q, by omega, h2, ?_, ?_⟩
  ·rw [List.getElem?_append_left (by rw [h.bl]; omega)]; exact h3
  ·rw [List.getElem?_append_left (by rw [h.nl]; omega)]; exact h4
theorem QuI.fin {L n s : Nat} {bs : List Bool} {nxt : List (List Int)} {p : Nat → Nat} {bs' : List Bool} {nx' : List (List Int)} (hD : DfL L n s bs nxt) (hC : ClG L n bs nxt p) (h : QuI L bs nxt p bs' nx' n) :
  (∀ q, q < n → DfL L (cv p n) (p q) bs' nx') ∧ ∀ w, (∀ a ∈ w, a < L) → ∀ q, q < n → accR bs' nx' (p q) w = accR bs nxt q w := by
 refine ⟨fun q hq => ⟨by have := hC.ok.lt hq hq; omega, hC.ok.lt hq hq, h.bl, h.nl, fun r hr => ?_⟩, fun w hw q hq => ?_⟩
 ·obtain ⟨j, hj, e⟩ := List.getElem_of_mem hr
  obtain ⟨q', h1, h2, h3, h4⟩ := h.cls j (by have := h.nl; omega)
  rw [List.getElem?_eq_getElem hj] at h4
  injection h4 with h4
  rw [e] at h4
  subst h4
  refine ⟨by simp, fun v hv => ?_⟩
  simp only [tab, List.mem_map, List.mem_range] at hv
  obtain ⟨x, hx, rfl⟩ := hv
  have := (hD.rt.step h1 hx).1
  have := hC.ok.lt this this
  omega
 ·refine accR_corr (fun i q => q < n ∧ p q = i) (fun i q e => ?_) (fun i q x e hx => ?_) w hw (p q) q ⟨hq, rfl⟩
  ·obtain ⟨e1, rfl⟩ := e
   obtain ⟨q', h1, h2, h3, h4⟩ := h.cls (p q) (hC.ok.lt e1 e1)
   have := (hC.st q' q h1 e1 h2).1
   simp only [List.getD_eq_getElem?_getD, h3, this]
  ·obtain ⟨e1, rfl⟩ := e
   obtain ⟨q', h1, h2, h3, h4⟩ := h.cls (p q) (hC.ok.lt e1 e1)
   have h5 := (hC.st q' q h1 e1 h2).2 x hx
   have h6 : stepR nx' (p q) x = p (stepR nxt q' x) := stepR_at h4 (tab_get _ hx)
   exact ⟨(hD.rt.step e1 hx).1, by rw [h6, h5]⟩
structure NuA {α : Type} (f : Nat → α) (cl : List α) (r : Nat → Nat) (k : Nat) : Prop where
 at_ : ∀ (i : Nat), i < k → cl[r i]? = some (f i)
 nd : ∀ (a b : Nat) v, cl[a]? = some v → cl[b]? = some v → a = b
 cnt : cv r k = cl.length
 ok : POK r k
theorem NuA.start {α : Type} {f : Nat → α} : NuA f [] (fun _ => 0) 0 := ⟨fun i h => by omega, fun a b v h => by simp at h, rfl, fun q h => by omega⟩
theorem NuA.hit {α : Type} {f : Nat → α} {cl : List α} {r : Nat → Nat} {k : Nat} (h : NuA f cl r k) {j : Nat} (hj : cl[j]? = some (f k)) : NuA f cl (fun i => if i = k then j else r i) (k + 1) := by
 have e : cv (fun i => if i = k then j else r i) k = cv r k := cv_congr (fun i hi => by simp [show i ≠ k by omega])
 have hjl := (List.getElem?_eq_some_iff.1 hj).1
 have hcnt := h.cnt
 refine ⟨fun i hi => ?_, h.nd, ?_, fun q hq => ?_⟩
 ·by_cases eq : i = k
  ·subst eq
   simp only [if_true]
   exact hj
  ·simp only [if_neg eq]; exact h.at_ i (by omega)
 ·show (if (if k = k then j else r k) = cv _ k then cv _ k + 1 else cv _ k) = _
  rw [e]
  simp only [if_true]
  rw [if_neg (by omega)]
  exact hcnt
 ·by_cases eq : q = k
  ·subst eq
   rw [e]
   simp only [if_true]
   omega
  ·rw [cv_congr (q := r) (fun i hi => by simp [show i ≠ k by omega])]
   simp only [if_neg eq]
   exact h.ok q (by omega)
theorem NuA.miss {α : Type} {f : Nat → α} {cl : List α} {r : Nat → Nat} {k : Nat} (h : NuA f cl r k) (hn : f k ∉ cl) : NuA f (cl ++ [f k]) (fun i => if i = k then cl.length else r i) (k + 1) := by
 have e : cv (fun i => if i = k then cl.length else r i) k = cv r k := cv_congr (fun i hi => by simp [show i ≠ k by omega])
 have hcnt := h.cnt
 have key : ∀ (a : Nat) v, (cl ++ [f k])[a]? = some v → (a < cl.length ∧ cl[a]? = some v) ∨ (a = cl.length ∧ v = f k) := fun a v ha => by
  by_cases hl : a < cl.length
  ·rw [List.getElem?_append_left hl] at ha; exact .inl ⟨hl, ha⟩
  ·have := (List.getElem?_eq_some_iff.1 ha).1
   simp at this
   have e : a = cl.length := by omega
   subst e
   simp at ha
   exact .inr ⟨rfl, ha.symm⟩
 refine ⟨fun i hi => ?_, fun a b v ha hb => ?_, ?_, fun q hq => ?_⟩
 ·by_cases eq : i = k
  ·subst eq
   simp
  ·simp only [if_neg eq]
   have := h.at_ i (by omega)
   rw [List.getElem?_append_left (List.getElem?_eq_some_iff.1 this).1]
   exact this
 ·rcases key a v ha with ⟨a1, a2⟩ | ⟨a1, a2⟩ <;> rcases key b v hb with ⟨b1, b2⟩ | ⟨b1, b2⟩
  ·exact h.nd a b v a2 b2
  ·exact absurd (b2 ▸ List.mem_of_getElem? a2) hn
  ·exact absurd (a2 ▸ List.mem_of_getElem? b2) hn
  ·omega
 ·show (if (if k = k then cl.length else r k) = cv _ k then cv _ k + 1 else cv _ k) = _
  rw [e]
  simp only [if_true]
  rw [if_pos (by omega)]
  simp; omega
 ·by_cases eq : q = k
  ·subst eq
   rw [e]
   simp only [if_true]
   omega
  ·rw [cv_congr (q := r) (fun i hi => by simp [show i ≠ k by omega])]
   simp only [if_neg eq]
   exact h.ok q (by omega)
theorem NuA.eq {α : Type} {f : Nat → α} {cl : List α} {r : Nat → Nat} {k : Nat} (h : NuA f cl r k) {i j : Nat} (hi : i < k) (hj : j < k) : r i = r j ↔ f i = f j := by
 have h1 := h.at_ i hi
 have h2 := h.at_ j hj
 constructor
 ·intro e
  rw [e, h2] at h1
  injection h1 with h1
  exact h1.symm
 ·intro e
  rw [e] at h1
  exact h.nd _ _ _ h1 h2
structure MnI (n : Nat) (bs : List Bool) (p : Nat → Nat) : Prop where
 ok : POK p n
 fin : ∀ i j, i < n → j < n → p i = p j → bs[i]? = bs[j]?
def keyQ (L : Nat) (nxt : List (List Int)) (p : Nat → Nat) (q : Nat) : List Int := tab 7 fun j => if j = 0 then (p q : Int) else if j ≤ L then (p (stepR nxt q (j - 1)) : Int) else 0
theorem keyQ_at {L : Nat} {nxt : List (List Int)} {p : Nat → Nat} {i j : Nat} (h : keyQ L nxt p i = keyQ L nxt p j) (hL : L ≤ 6) : p i = p j ∧ ∀ x, x < L → p (stepR nxt i x) = p (stepR nxt j x) := by
 have key : ∀ k, k < 7 → (if k = 0 then (p i : Int) else if k ≤ L then (p (stepR nxt i (k - 1)) : Int) else 0) = (if k = 0 then (p j : Int) else if k ≤ L then (p (stepR nxt j (k - 1)) : Int) else 0) := fun k hk => by
  have h1 : (keyQ L nxt p i)[k]? = (keyQ L nxt p j)[k]? := by rw [h]
  rw [keyQ, keyQ, tab_get _ hk, tab_get _ hk] at h1
  injection h1
 refine ⟨?_, fun x hx => ?_⟩
 ·have := key 0 (by omega)
  simp only [if_true] at this
  omega
 ·have := key (x + 1) (by omega)
  rw [if_neg (by omega), if_pos (by omega), if_neg (by omega), if_pos (by omega)] at this
  simp only [Nat.add_sub_cancel] at this
  omega
theorem NuA.finer {L n : Nat} {bs : List Bool} {nxt : List (List Int)} {p r : Nat → Nat} {cl : List (List Int)} (hL : L ≤ 6) (hp : MnI n bs p) (h : NuA (keyQ L nxt p) cl r n) :
  MnI n bs r ∧ (∀ i j, i < n → j < n → r i = r j → p i = p j) := by
 have hf : ∀ i j, i < n → j < n → r i = r j → p i = p j := fun i j hi hj e => (keyQ_at ((h.eq hi hj).1 e) hL).1
 exact ⟨⟨h.ok, fun i j hi hj e => hp.fin i j hi hj (hf i j hi hj e)⟩, hf⟩
theorem NuA.more {L n : Nat} {bs : List Bool} {nxt : List (List Int)} {p r : Nat → Nat} {cl : List (List Int)} (hL : L ≤ 6) (hp : MnI n bs p) (h : NuA (keyQ L nxt p) cl r n) (hne : cl.length ≠ cv p n) : cv p n < cl.length := by
 obtain ⟨h1, hf⟩ := h.finer hL hp
 rcases pk_grow hp.ok h1.ok hf with g | g
 ·exfalso
  have := cv_congr (p := r) (q := p) (k := n) g
  rw [h.cnt] at this
  exact hne this
 ·rw [h.cnt] at g; exact g
theorem NuA.end_ {L n s : Nat} {bs : List Bool} {nxt : List (List Int)} {p r : Nat → Nat} {cl : List (List Int)} (hD : DfL L n s bs nxt) (hL : L ≤ 6) (hp : MnI n bs p) (h : NuA (keyQ L nxt p) cl r n) (he : cl.length = cv p n) : ClG L n bs nxt r := by
 obtain ⟨h1, hf⟩ := h.finer hL hp
 have hg : ∀ i, i < n → r i = p i := by
  rcases pk_grow hp.ok h1.ok hf with g | g
  ·exact g
  ·rw [h.cnt] at g; omega
 refine ⟨h.ok, fun i j hi hj e => ⟨h1.fin i j hi hj e, fun x hx => ?_⟩⟩
 have h2 := (keyQ_at ((h.eq hi hj).1 e) hL).2 x hx
 rw [hg _ (hD.rt.step hi hx).1, hg _ (hD.rt.step hj hx).1, h2]
def finP (bs : List Bool) (q : Nat) : Nat := if bs[q]? = bs[0]? then 0 else 1
theorem finP_cv (bs : List Bool) : ∀ k, 1 ≤ cv (finP bs) (k + 1) ∧ cv (finP bs) (k + 1) ≤ 2
 | 0 => by simp [cv, finP]
 | k + 1 => by
  obtain ⟨h1, h2⟩ := finP_cv bs k
  have h3 : cv (finP bs) (k + 1 + 1) = if finP bs (k + 1) = cv (finP bs) (k + 1) then cv (finP bs) (k + 1) + 1 else cv (finP bs) (k + 1) := rfl
  have h4 : finP bs (k + 1) ≤ 1 := by unfold finP; split <;> omega
  split at h3 <;> omega
theorem finP_ok (n : Nat) (bs : List Bool) (hb : bs.length = n) : MnI n bs (finP bs) := by
 refine ⟨fun q hq => ?_, fun i j hi hj e => ?_⟩
 ·cases q with
  | zero => simp [finP]
  | succ q =>
   have h1 := (finP_cv bs q).1
   have h4 : finP bs (q + 1) ≤ 1 := by unfold finP; split <;> omega
   omega
 ·have hi' : i < bs.length := by omega
  have hj' : j < bs.length := by omega
  have h0 : 0 < bs.length := by omega
  simp only [finP, List.getElem?_eq_getElem hi', List.getElem?_eq_getElem hj', List.getElem?_eq_getElem h0, Option.some.injEq] at e ⊢
  cases h1 : bs[i] <;> cases h2 : bs[j] <;> cases h3 : bs[0] <;> simp [h1, h2, h3] at e ⊢

set_option linter.unusedSimpArgs false

def inT (x : Nat) : T := .int .i64 (x : Int)
def nbO (ds : List Nat) : List AObj := [.box 171 [.own 1 ds.length, .own 2 0], .row 3 1 1 ((nI ds).map (.int .i64)), .map 3 3 (kents inT 0 ds)]
def ofX (x : Nat) (ds : List Nat) : List Nat × Nat := match ixA x ds with
 | some i => (ds, i)
 | none => (ds ++ [x], ds.length)
theorem inT_eq (x y : Nat) : kEq (inT x) (inT y) = decide (x = y) := by
 simp only [inT, kEq]
 rw [Bool.eq_iff_iff]
 simp
 omega
set_option maxRecDepth 100000 in
set_option maxHeartbeats 4000000 in
theorem nbof_nil (x : Nat) : FnS Tryd.prog 115 [.ptr 0 0 2, .t 2 (.int .i64 x)] [.box 171 [.t 1 (.sl 0 []), .t 1 .nilm]] (.t 2 (.int .i64 0)) (nbO [x]) := by
 have hz1 : zero1 Tryd.prog 3 = some (.int .i64 0) := by kernel_rfl
 refine fn_intro Tryd.func115 rfl (by simp [Tryd.f115]) ?_
 rw [show Tryd.f115.ntmps = 49 from rfl, show Tryd.f115.results = #[.tmp 4] from rfl]
 refine awp_seqR fun K hK => ?_
 simp (maxSteps := 2000000) (disch := omega) [ints, rows, scal, wr64, wr8]
 (repeat' first | apply hK | apply And.intro) <;> try first | (show okH _ _ _ = true; kernel_rfl) | omega | rfl | (simp <;> omega)
 refine awp_seqR fun K hK => ?_
 simp (maxSteps := 2000000) (disch := omega) [ints, rows, scal, wr64, wr8, keyL, hz1]
 (repeat' first | apply hK | apply And.intro) <;> try first | (show okH _ _ _ = true; kernel_rfl) | omega | rfl | (simp <;> omega)
 refine awp_seq ?_
 refine awp_seqR fun K hK => ?_
 simp (maxSteps := 2000000) (disch := omega) [ints, rows, scal, wr64, wr8]
 (repeat' first | apply hK | apply And.intro) <;> try first | (show okH _ _ _ = true; kernel_rfl) | omega | rfl | (simp <;> omega)
 refine awp_cond (b := true) (p := 2) (by simp [scal] <;> omega) ?_
 refine awp_seq ?_
 refine awp_seqR fun K hK => ?_
 simp (maxSteps := 2000000) (disch := omega) [ints, rows, scal, wr64, wr8]
 (repeat' first | apply hK | apply And.intro) <;> try first | (show okH _ _ _ = true; kernel_rfl) | omega | rfl | (simp <;> omega)
 refine awp_cond (b := true) (p := 2) (by simp [scal] <;> omega) ?_
 refine awp_R fun K hK => ?_
 simp (maxSteps := 2000000) (disch := omega) [ints, rows, scal, wr64, wr8]
 (repeat' first | apply hK | apply And.intro) <;> try first | (show okH _ _ _ = true; kernel_rfl) | omega | rfl | (simp <;> omega)
 show awp _ _ _ _
 refine awp_seqR fun K hK => ?_
 simp (maxSteps := 2000000) (disch := omega) [ints, rows, scal, wr64, wr8]
 (repeat' first | apply hK | apply And.intro) <;> try first | (show okH _ _ _ = true; kernel_rfl) | omega | rfl | (simp <;> omega)
 refine awp_seqR fun K hK => ?_
 simp (maxSteps := 2000000) (disch := omega) [ints, rows, scal, wr64, wr8, keyL, fndT]
 (repeat' first | apply hK | apply And.intro) <;> try first | (show okH _ _ _ = true; kernel_rfl) | omega | rfl | (simp <;> omega)
 refine awp_R fun K hK => ?_
 simp (maxSteps := 2000000) (disch := omega) [ints, rows, scal, wr64, wr8]
 (repeat' first | apply hK | apply And.intro) <;> try first | (show okH _ _ _ = true; kernel_rfl) | omega | rfl | (simp <;> omega)
 show awp _ _ _ _
 refine awp_seqR fun K hK => ?_
 simp (maxSteps := 2000000) (disch := omega) [ints, rows, scal, wr64, wr8]
 (repeat' first | apply hK | apply And.intro) <;> try first | (show okH _ _ _ = true; kernel_rfl) | omega | rfl | (simp <;> omega)
 refine awp_ret ?_
 refine ⟨⟨.inr rfl, _, [(0, some 0), (1, some 44000001), (2, some 20000001)], (by first | rfl | (simp [ints, rows, scal, tpO, nbO, kents, inT, nI]; rfl)), ?_, ?_, ?_, ?_⟩, ?_⟩
 all_goals try simp [ints, rows, scal, tpO, nbO, kents, inT, nI]
set_option maxRecDepth 100000 in
set_option maxHeartbeats 4000000 in
theorem nbof_fn (x : Nat) (ds : List Nat) (hn : ds.length ≤ 100000) : FnS Tryd.prog 115 [.ptr 0 0 2, .t 2 (.int .i64 x)] (nbO ds) (.t 2 (.int .i64 ((ofX x ds).2 : Nat))) (nbO (ofX x ds).1) := by
 have hz1 : zero1 Tryd.prog 3 = some (.int .i64 0) := by kernel_rfl
 have hfn : fndT (.int .i64 (x : Int)) (kents inT 0 ds) = ixA x ds := fndT_kents (f := inT) ds 0 (fun y _ => inT_eq x y)
 have hall := kents_all inT (P := Tryd.prog) (K := 3) (fun x => kOK_int x) ds 0
 refine fn_intro Tryd.func115 rfl (by simp [Tryd.f115]) ?_
 rw [show Tryd.f115.ntmps = 49 from rfl, show Tryd.f115.results = #[.tmp 4] from rfl]
 refine awp_seqR fun K hK => ?_
 simp (maxSteps := 2000000) (disch := omega) [ints, rows, scal, wr64, wr8, nbO]
 (repeat' first | apply hK | apply And.intro) <;> try first | (show okH _ _ _ = true; kernel_rfl) | omega | rfl | (simp <;> omega)
 cases hx : ixA x ds with
 | some j =>
  have hj := ixA_get hx
  have hje := kents_get inT ds 0 j _ hj
  have hof : ofX x ds = (ds, j) := by simp [ofX, hx]
  refine awp_seqR fun K hK => ?_
  simp (maxSteps := 2000000) (disch := omega) [ints, rows, scal, wr64, wr8, keyL, hfn, hx, hall, hz1, hje]
  (repeat' first | apply hK | apply And.intro) <;> try first | (show okH _ _ _ = true; kernel_rfl) | omega | rfl | (simp <;> omega)
  refine awp_seq ?_
  refine awp_seqR fun K hK => ?_
  simp (maxSteps := 2000000) (disch := omega) [ints, rows, scal, wr64, wr8]
  (repeat' first | apply hK | apply And.intro) <;> try first | (show okH _ _ _ = true; kernel_rfl) | omega | rfl | (simp <;> omega)
  refine awp_cond (b := false) (p := 2) (by simp [scal] <;> omega) ?_
  refine awp_skip ?_
  show awp _ _ _ _
  refine awp_seqR fun K hK => ?_
  simp (maxSteps := 2000000) (disch := omega) [ints, rows, scal, wr64, wr8]
  (repeat' first | apply hK | apply And.intro) <;> try first | (show okH _ _ _ = true; kernel_rfl) | omega | rfl | (simp <;> omega)
  refine awp_ret ?_
  refine ⟨⟨.inr rfl, _, [(0, some 0), (1, some 1), (2, some 2)], (by first | rfl | (simp [ints, rows, scal, tpO, nbO, hof]; rfl)), ?_, ?_, ?_, ?_⟩, ?_⟩
  all_goals try simp [ints, rows, scal, tpO, nbO, hof]
 | none =>
  have hof : ofX x ds = (ds ++ [x], ds.length) := by simp [ofX, hx]
  refine awp_seqR fun K hK => ?_
  simp (maxSteps := 2000000) (disch := omega) [ints, rows, scal, wr64, wr8, keyL, hfn, hx, hall, hz1]
  (repeat' first | apply hK | apply And.intro) <;> try first | (show okH _ _ _ = true; kernel_rfl) | omega | rfl | (simp <;> omega)
  refine awp_seq ?_
  refine awp_seqR fun K hK => ?_
  simp (maxSteps := 2000000) (disch := omega) [ints, rows, scal, wr64, wr8]
  (repeat' first | apply hK | apply And.intro) <;> try first | (show okH _ _ _ = true; kernel_rfl) | omega | rfl | (simp <;> omega)
  refine awp_cond (b := true) (p := 2) (by simp [scal] <;> omega) ?_
  refine awp_seq ?_
  refine awp_seqR fun K hK => ?_
  simp (maxSteps := 2000000) (disch := omega) [ints, rows, scal, wr64, wr8]
  (repeat' first | apply hK | apply And.intro) <;> try first | (show okH _ _ _ = true; kernel_rfl) | omega | rfl | (simp <;> omega)
  refine awp_cond (b := false) (p := 2) (by simp [scal] <;> omega) ?_
  refine awp_skip ?_
  show awp _ _ _ _
  refine awp_seqR fun K hK => ?_
  simp (maxSteps := 2000000) (disch := omega) [ints, rows, scal, wr64, wr8]
  (repeat' first | apply hK | apply And.intro) <;> try first | (show okH _ _ _ = true; kernel_rfl) | omega | rfl | (simp <;> omega)
  refine awp_seqR fun K hK => ?_
  simp (maxSteps := 2000000) (disch := omega) [ints, rows, scal, wr64, wr8, keyL, hfn, hx, hall]
  (repeat' first | apply hK | apply And.intro) <;> try first | (show okH _ _ _ = true; kernel_rfl) | omega | rfl | (simp <;> omega)
  refine awp_R fun K hK => ?_
  simp (maxSteps := 2000000) (disch := omega) [ints, rows, scal, wr64, wr8]
  (repeat' first | apply hK | apply And.intro) <;> try first | (show okH _ _ _ = true; kernel_rfl) | omega | rfl | (simp <;> omega)
  show awp _ _ _ _
  refine awp_seqR fun K hK => ?_
  simp (maxSteps := 2000000) (disch := omega) [ints, rows, scal, wr64, wr8]
  (repeat' first | apply hK | apply And.intro) <;> try first | (show okH _ _ _ = true; kernel_rfl) | omega | rfl | (simp <;> omega)
  refine awp_ret ?_
  refine ⟨⟨.inr rfl, _, [(0, some 0), (1, some 1), (2, some 2)], (by first | rfl | (simp [ints, rows, scal, tpO, nbO, hof, kents_snoc, nI_snoc, inT]; rfl)), ?_, ?_, ?_, ?_⟩, ?_⟩
  all_goals try simp [ints, rows, scal, tpO, nbO, hof, kents_snoc, nI_snoc, inT]
def dfC (L s : Nat) (bs : List Bool) (nxt : List (List Int)) : List T := [.int .i64 L, .int .i64 s, bools bs, rows nxt]
def dfO (L s : Nat) (bs : List Bool) (nxt : List (List Int)) : AObj := .box 32 [.t 2 (.int .i64 L), .t 2 (.int .i64 s), .t 0 (bools bs), .t 0 (rows nxt)]
set_option maxRecDepth 100000 in
set_option maxHeartbeats 4000000 in
theorem trim1_fn {L n s : Nat} {bs : List Bool} {nxt : List (List Int)} (h : DfL L n s bs nxt) {q x : Nat} (hq : q < n) (hx : x < L) : FnA Tryd.prog 102 [.t 2 (.int .i64 q), .t 2 (.int .i64 x), .pt 0 (dfC L s bs nxt)] (.t 2 (.int .i64 (stepR nxt q x : Nat))) := by
 obtain ⟨s1, s2, s3, s4⟩ := h.rt.step hq hx
 refine fn_intro Tryd.func102 rfl (by simp [Tryd.f102]) ?_
 rw [show Tryd.f102.ntmps = 14 from rfl, show Tryd.f102.results = #[.tmp 5] from rfl]
 refine awp_seqR fun K hK => ?_
 simp (maxSteps := 2000000) (disch := omega) [ints, rows, scal, wr64, wr8, dfC]
 (repeat' first | apply hK | apply And.intro) <;> try first | (show okH _ _ _ = true; kernel_rfl) | omega | rfl | (simp <;> omega)
 refine awp_seqR fun K hK => ?_
 simp (maxSteps := 2000000) (disch := omega) [ints, rows, scal, wr64, wr8, rows, s2, s3, s4]
 (repeat' first | apply hK | apply And.intro) <;> try first | (show okH _ _ _ = true; kernel_rfl) | omega | rfl | (simp <;> omega)
 refine awp_ret ?_
 refine ⟨⟨.inr rfl, _, [], rfl, trivial, trivial, by simp, ?_⟩, by simp⟩
 simp
set_option maxRecDepth 100000 in
set_option maxHeartbeats 4000000 in
theorem trim2_fn {L n s : Nat} {bs : List Bool} {nxt : List (List Int)} (h : DfL L n s bs nxt) {q : Nat} (hq : q < n) : FnA Tryd.prog 103 [.t 2 (.int .i64 q), .pt 0 (dfC L s bs nxt)] (.t 2 (.bool (bs.getD q false))) := by
 have hqb : q < bs.length := by rw [h.bl]; exact hq
 have hv : bs.getD q false = bs[q] := by simp [List.getD_eq_getElem?_getD, hqb]
 rw [hv]
 refine fn_intro Tryd.func103 rfl (by simp [Tryd.f103]) ?_
 rw [show Tryd.f103.ntmps = 9 from rfl, show Tryd.f103.results = #[.tmp 3] from rfl]
 refine awp_seqR fun K hK => ?_
 simp (maxSteps := 2000000) (disch := omega) [ints, rows, scal, wr64, wr8, dfC, bools]
 (repeat' first | apply hK | apply And.intro) <;> try first | (show okH _ _ _ = true; kernel_rfl) | omega | rfl | (simp <;> omega)
 refine awp_seqR fun K hK => ?_
 simp (maxSteps := 2000000) (disch := omega) [ints, rows, scal, wr64, wr8, hqb]
 (repeat' first | apply hK | apply And.intro) <;> try first | (show okH _ _ _ = true; kernel_rfl) | omega | rfl | (simp <;> omega)
 refine awp_ret ?_
 refine ⟨⟨.inr rfl, _, [], rfl, trivial, trivial, by simp, ?_⟩, by simp⟩
 simp
theorem ofX_spec {L n s : Nat} {bs : List Bool} {nxt : List (List Int)} {ss : List Nat} {bs' : List Bool} {nx' : List (List Int)} {i : Nat} (h : ExI L n s bs nxt ss bs' nx' i) {q : Nat} (hq : q < n) : ExI L n s bs nxt (ofX q ss).1 bs' nx' i ∧ (ofX q ss).1[(ofX q ss).2]? = some q ∧ ∃ ys, (ofX q ss).1 = ss ++ ys := by
 unfold ofX
 cases hx : ixA q ss with
 | some j => exact ⟨h, ixA_get hx, [], by simp⟩
 | none => exact ⟨h.app hq (ixA_none hx), by simp, [q], rfl⟩
set_option maxRecDepth 100000 in
set_option maxHeartbeats 8000000 in
theorem explore_fn {L n s : Nat} {bs : List Bool} {nxt : List (List Int)} (h : DfL L n s bs nxt) (hL : 1 ≤ L) (hL2 : L ≤ 6) (hn : n ≤ 512) : ∃ res, (∃ ss bs' nx', ExI L n s bs nxt ss bs' nx' ss.length ∧ res = .tup [dfT 2 L 0 bs' nx', .t 2 (ints (nI ss)), .t 2 (.int .i64 0)]) ∧
  FnS Tryd.prog 101 [.t 2 (.int .i64 L), .t 2 (.int .i64 s), .fn 102 [.pt 0 (dfC L s bs nxt)], .fn 103 [.pt 0 (dfC L s bs nxt)]] [] res [] := by
 have hst := h.st
 refine fn_introE Tryd.func101 rfl (by simp [Tryd.f101]) ?_
 rw [show Tryd.f101.ntmps = 71 from rfl, show Tryd.f101.results = #[.cell 8 32, .tmp 9, .tmp 10] from rfl]
 refine awp_seqR fun K hK => ?_
 simp (maxSteps := 2000000) (disch := omega) [ints, rows, scal, wr64, wr8]
 (repeat' first | apply hK | apply And.intro) <;> try first | (show okH _ _ _ = true; kernel_rfl) | omega | rfl | (simp <;> omega)
 refine awp_seqR fun K hK => ?_
 simp (maxSteps := 2000000) (disch := omega) [ints, rows, scal, wr64, wr8]
 (repeat' first | apply hK | apply And.intro) <;> try first | (show okH _ _ _ = true; kernel_rfl) | omega | rfl | (simp <;> omega)
 refine awp_seqR fun K hK => ?_
 simp (maxSteps := 2000000) (disch := omega) [ints, rows, scal, wr64, wr8]
 (repeat' apply And.intro)
 all_goals (try omega)
 refine call_rule (caps := []) (nbof_nil s) [3000000] [3000000, 5000000, 5000001] 2 rfl rfl rfl rfl (by kernel_rfl) (by simp) ?_ ?_ (by simp) rfl (by simp) ⟨.inr ⟨rfl, 0, _, _, _, _, _, rfl, rfl, (by first | rfl | simp [nbO]), rfl, (by first | rfl | simp [nbO])⟩, .inl ⟨by omega, by omega⟩, .inl ⟨by omega, by omega⟩, trivial⟩ (by simp [nbO]) ?_
 ·simp [scal, rows, ints, nbO]
 ·simp [scal, rows, ints, nbO]
 simp (maxSteps := 2000000) (disch := omega) [ints, rows, scal, wr64, wr8, nbO]
 (repeat' first | apply hK | apply And.intro) <;> try first | (show okH _ _ _ = true; kernel_rfl) | omega | rfl | (simp <;> omega)
 refine awp_seqR fun K hK => ?_
 simp (maxSteps := 2000000) (disch := omega) [ints, rows, scal, wr64, wr8]
 (repeat' first | apply hK | apply And.intro) <;> try first | (show okH _ _ _ = true; kernel_rfl) | omega | rfl | (simp <;> omega)
 refine awp_seq ?_
 refine awp_seqR fun K hK => ?_
 simp (maxSteps := 2000000) (disch := omega) [ints, rows, scal, wr64, wr8]
 (repeat' first | apply hK | apply And.intro) <;> try first | (show okH _ _ _ = true; kernel_rfl) | omega | rfl | (simp <;> omega)
 refine awp_block ?_
 refine awp_loop (fun y : Nat × List Nat × List Bool × List (List Int) => mkS [(0, .t 2 (.int .i64 L)), (2, .fn 102 [.pt 0 (dfC L s bs nxt)]), (3, .fn 103 [.pt 0 (dfC L s bs nxt)]), (8, .ptr 1 0 4), (11, .ptr 2 0 2), (12, .ptr 3 0 4), (13, .t 2 (.int .i64 y.1))]
  [(1, .box 32 [.any, .any, .any, .any]), (2, .box 171 [.own 4 y.2.1.length, .own 5 0]), (3, .box 32 [.t 2 (.int .i64 L), .t 2 (.int .i64 0), .own 6 y.1, .own 7 y.1]), (4, .row 3 1 2 ((nI y.2.1).map (.int .i64))), (5, .map 3 3 (kents inT 0 y.2.1)), (6, .row 4 1 2 (y.2.2.1.map .bool)), (7, .row 22 1 2 (y.2.2.2.map ints))]
  8 71 [.any, .any, .any, .any]) (fun y => ExI L n s bs nxt y.2.1 y.2.2.1 y.2.2.2 y.1) (fun y => n - y.1) ?_ ?_
 ·refine ⟨(0, [s], [], []), ExI.start hst, ?_⟩
  refine wk_list [(1, some 0), (2, some 3000000), (3, some 8000000), (4, some 5000000), (5, some 5000001), (6, none), (7, none)] rfl ?_ ?_ ?_ ?_
  all_goals try simp [ints, dfC, nbO, rows, bools, nI, kents, inT]
 rintro ⟨i, ss, bs', nx'⟩ hE
 simp only at hE
 have hbl := hE.bl
 have hnl := hE.nl
 have hsl := hE.len
 have hile := hE.le
 refine awp_seq ?_
 refine awp_seqR fun K hK => ?_
 simp (maxSteps := 2000000) (disch := omega) [ints, rows, scal, wr64, wr8]
 (repeat' first | apply hK | apply And.intro) <;> try first | (show okH _ _ _ = true; kernel_rfl) | omega | rfl | (simp <;> omega)
 by_cases hil : i < ss.length
 ·refine awp_cond (b := true) (p := 2) (by simp [scal, hil] <;> omega) ?_
  obtain ⟨q, hq⟩ : ∃ q, ss[i]? = some q := ⟨_, List.getElem?_eq_getElem hil⟩
  have hqn := hE.lt q (List.mem_of_getElem? hq)
  have hqg : (nI ss)[i]? = some (q : Int) := by rw [nI, List.getElem?_map, hq]; rfl
  refine awp_skip ?_
  show awp _ _ _ _
  refine awp_seq ?_
  refine awp_block ?_
  refine awp_seqR fun K hK => ?_
  simp (maxSteps := 2000000) (disch := omega) [ints, rows, scal, wr64, wr8, hqg]
  (repeat' first | apply hK | apply And.intro) <;> try first | (show okH _ _ _ = true; kernel_rfl) | omega | rfl | (simp <;> omega)
  refine awp_seqR fun K hK => ?_
  simp (maxSteps := 2000000) (disch := omega) [ints, rows, scal, wr64, wr8]
  (repeat' first | apply hK | apply And.intro) <;> try first | (show okH _ _ _ = true; kernel_rfl) | omega | rfl | (simp <;> omega)
  refine awp_seq ?_
  refine awp_seqR fun K hK => ?_
  simp (maxSteps := 2000000) (disch := omega) [ints, rows, scal, wr64, wr8]
  (repeat' first | apply hK | apply And.intro) <;> try first | (show okH _ _ _ = true; kernel_rfl) | omega | rfl | (simp <;> omega)
  refine awp_block ?_
  refine awp_loop (fun y : Nat × List Nat × List Int => mkS [(0, .t 2 (.int .i64 L)), (2, .fn 102 [.pt 0 (dfC L s bs nxt)]), (3, .fn 103 [.pt 0 (dfC L s bs nxt)]), (8, .ptr 1 0 4), (11, .ptr 2 0 2), (12, .ptr 3 0 4), (13, .t 2 (.int .i64 i)), (14, .t 2 (.int .i64 q)), (15, .own 8 L), (36, .t 2 (.int .i64 L)), (37, .t 2 (.int .i64 y.1))]
   [(1, .box 32 [.any, .any, .any, .any]), (2, .box 171 [.own 4 y.2.1.length, .own 5 0]), (3, .box 32 [.t 2 (.int .i64 L), .t 2 (.int .i64 0), .own 6 i, .own 7 i]), (4, .row 3 1 2 ((nI y.2.1).map (.int .i64))), (5, .map 3 3 (kents inT 0 y.2.1)), (6, .row 4 1 2 (bs'.map .bool)), (7, .row 22 1 2 (nx'.map ints)), (8, .row 3 1 2 (y.2.2.map (.int .i64)))]
   9 71 [.any, .any, .any, .any]) (fun y => ExI L n s bs nxt y.2.1 bs' nx' i ∧ y.2.1[i]? = some q ∧ y.2.2.length = L ∧ RowI nxt y.2.1 q y.2.2 y.1 ∧ y.1 ≤ L) (fun y => L - y.1) ?_ ?_
  ·refine ⟨(0, ss, List.replicate L 0), ⟨hE, hq, by simp, fun y hy => by omega, by simp⟩, ?_⟩
   refine wk_list [(1, some 1), (2, some 2), (3, some 3), (4, some 4), (5, some 5), (6, some 6), (7, some 7), (8, some 12000008)] rfl ?_ ?_ ?_ ?_
   all_goals try simp [ints, dfC, bools, rows]
  clear hE hq hqg hil hsl hile
  rintro ⟨x, ss, r⟩ ⟨hE, hq, hrl, hR, hx⟩
  simp only at hE hq hrl hR hx
  have hsl := hE.len
  have hil := (List.getElem?_eq_some_iff.1 hq).1
  refine awp_seqR fun K hK => ?_
  simp (maxSteps := 2000000) (disch := omega) [ints, rows, scal, wr64, wr8]
  (repeat' first | apply hK | apply And.intro) <;> try first | (show okH _ _ _ = true; kernel_rfl) | omega | rfl | (simp <;> omega)
  refine awp_seq ?_
  by_cases hxl : x < L
  ·refine awp_cond (b := true) (p := 2) (by simp [scal, hxl] <;> omega) ?_
   have h1 := trim1_fn h hqn hxl
   obtain ⟨s1, -⟩ := h.rt.step hqn hxl
   generalize hv : stepR nxt q x = v at h1 s1
   obtain ⟨hE2, ht, ys, hys⟩ := ofX_spec hE s1
   have h2 := nbof_fn v ss (by omega)
   generalize ofX v ss = p at hE2 ht hys h2
   obtain ⟨ss2, t⟩ := p
   simp only at hE2 ht hys h2
   have hq2 : ss2[i]? = some q := by rw [hys, List.getElem?_append_left hil]; exact hq
   have hR2 : RowI nxt ss2 q (r.set x (t : Int)) (x + 1) := by
    refine RowI.set (by rw [hys]; exact hR.app ys) (by omega) ?_
    rw [hv]; exact ht
   refine awp_skip ?_
   show awp _ _ _ _
   refine awp_seq ?_
   refine awp_block ?_
   refine awp_seqR fun K hK => ?_
   simp (maxSteps := 2000000) (disch := omega) [ints, rows, scal, wr64, wr8]
   (repeat' first | apply hK | apply And.intro) <;> try first | (show okH _ _ _ = true; kernel_rfl) | omega | rfl | (simp <;> omega)
   refine awp_R fun K hK => ?_
   simp (maxSteps := 2000000) (disch := omega) [ints, rows, scal, wr64, wr8]
   (repeat' apply And.intro)
   all_goals (try omega)
   refine call_rule (caps := [.pt 0 (dfC L s bs nxt)]) (h1) [] [] 1 rfl rfl rfl (by simp) (by first | assumption | kernel_rfl) (by simp) ?_ ?_ (by simp) rfl (by simp) trivial (by simp [dfC]) ?_
   ·simp [scal, rows, ints, dfC]
   ·simp [scal, rows, ints, dfC]
   simp (maxSteps := 2000000) (disch := omega) [ints, rows, scal, wr64, wr8]
   (repeat' apply And.intro)
   all_goals (try omega)
   refine call_rule (caps := []) (h2) [2, 4, 5] [2, 9000009, 9000010] 2 rfl rfl rfl rfl (by kernel_rfl) (by simp) ?_ ?_ (by simp) rfl (by simp) ⟨.inr ⟨rfl, 0, _, _, _, _, _, rfl, rfl, (by first | rfl | simp [nbO]), rfl, (by first | rfl | simp [nbO])⟩, .inl ⟨by omega, by omega⟩, .inl ⟨by omega, by omega⟩, trivial⟩ (by simp [nbO]) ?_
   ·simp [scal, rows, ints, nbO]
   ·simp [scal, rows, ints, nbO]
   simp (maxSteps := 2000000) (disch := omega) [ints, rows, scal, wr64, wr8, nbO, hrl, hxl]
   (repeat' first | apply hK | apply And.intro) <;> try first | (show okH _ _ _ = true; kernel_rfl) | omega | rfl | (simp <;> omega)
   show awp _ _ _ _
   refine awp_R fun K hK => ?_
   simp (maxSteps := 2000000) (disch := omega) [ints, rows, scal, wr64, wr8]
   (repeat' first | apply hK | apply And.intro) <;> try first | (show okH _ _ _ = true; kernel_rfl) | omega | rfl | (simp <;> omega)
   refine ⟨(x + 1, ss2, r.set x (t : Int)), ⟨hE2, hq2, by simpa using hrl, hR2, by omega⟩, by simp only; omega, ?_⟩
   refine wk_list [(1, some 1), (2, some 2), (3, some 3), (4, some 9000009), (5, some 9000010), (6, some 6), (7, some 7), (8, some 8)] rfl ?_ ?_ ?_ ?_
   all_goals try simp [ints, dfC, nbO]
  ·obtain rfl : x = L := by omega
   have h3 := trim2_fn h hqn
   have hqb : bs[q]? = some (bs.getD q false) := by
    rw [List.getD_eq_getElem?_getD, List.getElem?_eq_getElem (by rw [h.bl]; exact hqn)]; rfl
   have h512 : ¬ (512 : Int) < (ss.length : Int) := by omega
   refine awp_cond (b := false) (p := 2) (by simp [scal] <;> omega) ?_
   refine awp_exit ?_
   show awp _ _ _ _
   refine awp_seq ?_
   refine awp_seqR fun K hK => ?_
   simp (maxSteps := 2000000) (disch := omega) [ints, rows, scal, wr64, wr8, h512]
   (repeat' first | apply hK | apply And.intro) <;> try first | (show okH _ _ _ = true; kernel_rfl) | omega | rfl | (simp <;> omega)
   refine awp_cond (b := false) (p := 2) (by simp [scal] <;> omega) ?_
   refine awp_skip ?_
   show awp _ _ _ _
   refine awp_seqR fun K hK => ?_
   simp (maxSteps := 2000000) (disch := omega) [ints, rows, scal, wr64, wr8]
   (repeat' first | apply hK | apply And.intro) <;> try first | (show okH _ _ _ = true; kernel_rfl) | omega | rfl | (simp <;> omega)
   refine awp_RD (by kernel_rfl) (fun K hK => ?_)
   simp (maxSteps := 2000000) (disch := omega) [ints, rows, scal, wr64, wr8]
   (repeat' apply And.intro)
   all_goals (try omega)
   refine call_ruleD (caps := [.pt 0 (dfC x s bs nxt)]) (h3) [] [] 1 rfl rfl rfl (by simp) (by first | assumption | kernel_rfl) (by simp) ?_ ?_ (by simp) rfl (by simp) trivial (by simp [dfC]) ?_
   ·simp [scal, rows, ints, dfC]
   ·simp [scal, rows, ints, dfC]
   simp (maxSteps := 2000000) (disch := omega) [ints, rows, scal, wr64, wr8]
   (repeat' first | apply hK | apply And.intro) <;> try first | (show chkD _ _ = true; kernel_rfl) | (show okH _ _ _ = true; kernel_rfl) | omega | rfl | (simp <;> omega)
   show awp _ _ _ _
   refine awp_R fun K hK => ?_
   simp (maxSteps := 2000000) (disch := omega) [ints, rows, scal, wr64, wr8]
   (repeat' first | apply hK | apply And.intro) <;> try first | (show okH _ _ _ = true; kernel_rfl) | omega | rfl | (simp <;> omega)
   refine ⟨(i + 1, ss, bs' ++ [bs.getD q false], nx' ++ [r]), hE.done hq hqb hrl hR, by simp only; omega, ?_⟩
   refine wk_list [(1, some 1), (2, some 2), (3, some 3), (4, some 4), (5, some 5), (6, some 6), (7, some 7)] rfl ?_ ?_ ?_ ?_
   all_goals try simp [ints, dfC, hbl, hnl]
 ·have hi : i = ss.length := by omega
  subst hi
  refine awp_cond (b := false) (p := 2) (by simp [scal] <;> omega) ?_
  refine awp_exit ?_
  show awp _ _ _ _
  refine awp_seqD (by kernel_rfl) (fun K hK => ?_)
  simp (maxSteps := 2000000) (disch := omega) [ints, rows, scal, wr64, wr8]
  (repeat' first | apply hK | apply And.intro) <;> try first | (show chkD _ _ = true; kernel_rfl) | (show okH _ _ _ = true; kernel_rfl) | omega | rfl | (simp <;> omega)
  refine awp_ret ?_
  refine ⟨_, ⟨ss, bs', nx', hE, rfl⟩, ?_⟩
  refine ⟨⟨.inr rfl, _, [], (by simp; rfl), trivial, trivial, by simp [dfT, bools, hbl, hnl], ?_⟩, by simp [dfT, bools, hbl, hnl]⟩
  simp [ints, rows, dfT, bools, hbl, hnl]

set_option linter.unusedSimpArgs false

def TrX (L n s : Nat) (bs : List Bool) (nxt : List (List Int)) (res : AV) : Prop := ∃ m bs' nx' pl, m ≤ n ∧ DfL L m 0 bs' nx' ∧ (∀ w, (∀ a ∈ w, a < L) → accR bs' nx' 0 w = accR bs nxt s w) ∧ (∀ i, i < n → pl i < (m : Int)) ∧ res = .tup [dfT 2 L 0 bs' nx', .t 2 (ints (tab n pl))]
set_option maxRecDepth 100000 in
set_option maxHeartbeats 8000000 in
theorem dtrim_fn {L n s : Nat} {bs : List Bool} {nxt : List (List Int)} (h : DfL L n s bs nxt) (hL : 1 ≤ L) (hL2 : L ≤ 6) (hn : n ≤ 512) : ∃ res, TrX L n s bs nxt res ∧ FnS Tryd.prog 87 [dfT 0 L s bs nxt] [] res [] := by
 obtain ⟨_, ⟨ss, bs', nx', hE, rfl⟩, hexp⟩ := explore_fn h hL hL2 hn
 obtain ⟨hD', hlang⟩ := hE.fin
 have hbl := h.bl
 have hsl := hE.len
 refine fn_introE Tryd.func87 rfl (by simp [Tryd.f87]) ?_
 rw [show Tryd.f87.ntmps = 53 from rfl, show Tryd.f87.results = #[.cell 2 32, .tmp 3] from rfl]
 refine awp_seqR fun K hK => ?_
 simp (maxSteps := 2000000) (disch := omega) [ints, rows, scal, wr64, wr8, dfT, bools]
 (repeat' first | apply hK | apply And.intro) <;> try first | (show okH _ _ _ = true; kernel_rfl) | omega | rfl | (simp <;> omega)
 refine awp_seq ?_
 refine awp_seqR fun K hK => ?_
 simp (maxSteps := 2000000) (disch := omega) [ints, rows, scal, wr64, wr8]
 (repeat' apply And.intro)
 all_goals (try omega)
 refine call_rule (caps := []) (dvalidate_fn h hL hL2 hn) [] [] 2 rfl rfl rfl rfl (by kernel_rfl) (by simp) ?_ trivial trivial rfl trivial trivial (by simp) ?_
 ·simp [scal, rows, ints, dfT, bools]
 simp (maxSteps := 2000000) (disch := omega) [ints, rows, scal, wr64, wr8]
 (repeat' first | apply hK | apply And.intro) <;> try first | (show okH _ _ _ = true; kernel_rfl) | omega | rfl | (simp <;> omega)
 refine awp_cond (b := false) (p := 2) (by simp [scal] <;> omega) ?_
 refine awp_skip ?_
 show awp _ _ _ _
 refine awp_seqR fun K hK => ?_
 simp (maxSteps := 2000000) (disch := omega) [ints, rows, scal, wr64, wr8]
 (repeat' apply And.intro)
 all_goals (try omega)
 refine call_rule (caps := []) (hexp) [] [] 2 rfl rfl rfl rfl (by kernel_rfl) (by simp) ?_ trivial trivial rfl trivial trivial (by simp) ?_
 ·simp [scal, rows, ints, dfC, dfT, bools]
 simp (maxSteps := 2000000) (disch := omega) [ints, rows, scal, wr64, wr8, dfO, dfT, bools]
 (repeat' first | apply hK | apply And.intro) <;> try first | (show okH _ _ _ = true; kernel_rfl) | omega | rfl | (simp <;> omega)
 refine awp_seqR fun K hK => ?_
 simp (maxSteps := 2000000) (disch := omega) [ints, rows, scal, wr64, wr8, hbl]
 (repeat' first | apply hK | apply And.intro) <;> try first | (show okH _ _ _ = true; kernel_rfl) | omega | rfl | (simp <;> omega)
 refine awp_seq ?_
 refine awp_seqR fun K hK => ?_
 simp (maxSteps := 2000000) (disch := omega) [ints, rows, scal, wr64, wr8]
 (repeat' first | apply hK | apply And.intro) <;> try first | (show okH _ _ _ = true; kernel_rfl) | omega | rfl | (simp <;> omega)
 refine awp_block ?_
 refine awp_loop (fun y : Nat => mkS [(2, .ptr 0 0 4), (4, .ptr 1 0 4), (5, .t 2 (ints (nI ss))), (7, .own 2 n), (31, .t 2 (.int .i64 n)), (32, .t 2 (.int .i64 y))] [(0, .box 32 [.any, .any, .any, .any]), (1, .box 32 [.t 2 (.int .i64 L), .t 2 (.int .i64 0), .t 2 (bools bs'), .t 2 (rows nx')]), (2, .row 3 1 2 (tab n fun i => .int .i64 (if i < y then -1 else 0)))] 3 53 [.any]) (fun y => y ≤ n) (fun y => n - y) ?_ ?_
 ·refine ⟨0, by omega, ?_⟩
  refine wk_list [(0, some 1000000), (1, some 17000000), (2, some 24000000)] rfl ?_ ?_ ?_ ?_
  all_goals try simp [ints, rows, bools, dfT, dfO, hbl, rep_tab]
 intro k hk
 refine awp_seqR fun K hK => ?_
 simp (maxSteps := 2000000) (disch := omega) [ints, rows, scal, wr64, wr8]
 (repeat' first | apply hK | apply And.intro) <;> try first | (show okH _ _ _ = true; kernel_rfl) | omega | rfl | (simp <;> omega)
 refine awp_seq ?_
 by_cases hkn : k < n
 ·refine awp_cond (b := true) (p := 2) (by simp [scal, hkn] <;> omega) ?_
  refine awp_skip ?_
  show awp _ _ _ _
  refine awp_seq ?_
  refine awp_block ?_
  refine awp_seqR fun K hK => ?_
  simp (maxSteps := 2000000) (disch := omega) [ints, rows, scal, wr64, wr8]
  (repeat' first | apply hK | apply And.intro) <;> try first | (show okH _ _ _ = true; kernel_rfl) | omega | rfl | (simp <;> omega)
  refine awp_R fun K hK => ?_
  simp (maxSteps := 2000000) (disch := omega) [ints, rows, scal, wr64, wr8, hkn]
  (repeat' first | apply hK | apply And.intro) <;> try first | (show okH _ _ _ = true; kernel_rfl) | omega | rfl | (simp <;> omega)
  show awp _ _ _ _
  refine awp_R fun K hK => ?_
  simp (maxSteps := 2000000) (disch := omega) [ints, rows, scal, wr64, wr8]
  (repeat' first | apply hK | apply And.intro) <;> try first | (show okH _ _ _ = true; kernel_rfl) | omega | rfl | (simp <;> omega)
  refine ⟨k + 1, by omega, by omega, ?_⟩
  refine wk_list [(0, some 0), (1, some 1), (2, some 2)] rfl ?_ ?_ ?_ ?_
  all_goals try simp [ints, rows, bools, tab_set]
  refine tab_congr (fun i hi => ?_)
  by_cases e : i = k
  ·simp [e]
  ·rw [if_neg e]
   by_cases e2 : i < k
   ·rw [if_pos e2, if_pos (by omega)]
   ·rw [if_neg e2, if_neg (by omega)]
 ·have hke : n = k := by omega
  subst k
  refine awp_cond (b := false) (p := 2) (by simp [scal] <;> omega) ?_
  refine awp_exit ?_
  show awp _ _ _ _
  refine awp_seq ?_
  refine awp_seqR fun K hK => ?_
  simp (maxSteps := 2000000) (disch := omega) [ints, rows, scal, wr64, wr8]
  (repeat' first | apply hK | apply And.intro) <;> try first | (show okH _ _ _ = true; kernel_rfl) | omega | rfl | (simp <;> omega)
  refine awp_block ?_
  refine awp_loop (fun y : Nat × (Nat → Int) => mkS [(2, .ptr 0 0 4), (4, .ptr 1 0 4), (7, .own 2 n), (39, .t 2 (ints (nI ss))), (40, .t 2 (.int .i64 ss.length)), (41, .t 2 (.int .i64 y.1))] [(0, .box 32 [.any, .any, .any, .any]), (1, .box 32 [.t 2 (.int .i64 L), .t 2 (.int .i64 0), .t 2 (bools bs'), .t 2 (rows nx')]), (2, .row 3 1 2 (tab n fun i => .int .i64 (y.2 i)))] 3 53 [.any]) (fun y => y.1 ≤ ss.length ∧ ∀ i, i < n → y.2 i < (ss.length : Int)) (fun y => ss.length - y.1) ?_ ?_
  ·refine ⟨(0, fun i => if i < n then -1 else 0), ⟨by simp, fun i hi => by simp only [if_pos hi]; omega⟩, ?_⟩
   refine wk_list [(0, some 0), (1, some 1), (2, some 2)] rfl ?_ ?_ ?_ ?_
   all_goals try simp [ints, rows, bools]
  rintro ⟨i, pl⟩ ⟨hi, hpl⟩
  simp only at hi hpl
  refine awp_seqR fun K hK => ?_
  simp (maxSteps := 2000000) (disch := omega) [ints, rows, scal, wr64, wr8]
  (repeat' first | apply hK | apply And.intro) <;> try first | (show okH _ _ _ = true; kernel_rfl) | omega | rfl | (simp <;> omega)
  refine awp_seq ?_
  by_cases hil : i < ss.length
  ·refine awp_cond (b := true) (p := 2) (by simp [scal, hil] <;> omega) ?_
   have hsn := hE.lt ss[i] (by simp)
   have hg := nI_get hil
   refine awp_skip ?_
   show awp _ _ _ _
   refine awp_seq ?_
   refine awp_block ?_
   refine awp_seqR fun K hK => ?_
   simp (maxSteps := 2000000) (disch := omega) [ints, rows, scal, wr64, wr8, hg]
   (repeat' first | apply hK | apply And.intro) <;> try first | (show okH _ _ _ = true; kernel_rfl) | omega | rfl | (simp <;> omega)
   refine awp_R fun K hK => ?_
   simp (maxSteps := 2000000) (disch := omega) [ints, rows, scal, wr64, wr8, hsn]
   (repeat' first | apply hK | apply And.intro) <;> try first | (show okH _ _ _ = true; kernel_rfl) | omega | rfl | (simp <;> omega)
   show awp _ _ _ _
   refine awp_R fun K hK => ?_
   simp (maxSteps := 2000000) (disch := omega) [ints, rows, scal, wr64, wr8]
   (repeat' first | apply hK | apply And.intro) <;> try first | (show okH _ _ _ = true; kernel_rfl) | omega | rfl | (simp <;> omega)
   refine ⟨(i + 1, fun q => if q = ss[i] then (i : Int) else pl q), ⟨by simp only; omega, fun j hj => ?_⟩, by simp only; omega, ?_⟩
   ·by_cases e : j = ss[i]
    ·simp only [if_pos e]; omega
    ·simp only [if_neg e]; exact hpl j hj
   ·refine wk_list [(0, some 0), (1, some 1), (2, some 2)] rfl ?_ ?_ ?_ ?_
    all_goals try simp [ints, rows, bools, tab_set]
    refine tab_congr (fun j hj => ?_)
    by_cases e : j = ss[i] <;> simp [e]
  ·refine awp_cond (b := false) (p := 2) (by simp [scal] <;> omega) ?_
   refine awp_exit ?_
   show awp _ _ _ _
   refine awp_seqR fun K hK => ?_
   simp (maxSteps := 2000000) (disch := omega) [ints, rows, scal, wr64, wr8]
   (repeat' first | apply hK | apply And.intro) <;> try first | (show okH _ _ _ = true; kernel_rfl) | omega | rfl | (simp <;> omega)
   refine awp_ret ?_
   refine ⟨_, ⟨ss.length, bs', nx', pl, hsl, hD', hlang, hpl, rfl⟩, ?_⟩
   refine ⟨⟨.inr rfl, _, [], (by simp; rfl), trivial, trivial, by simp [dfT, bools, tab_map], ?_⟩, by simp [dfT, bools, tab_map]⟩
   simp [ints, rows, dfT, bools, tab_map]
end Go.Proofs.YtnffigeofdagfaaDoor.M
