/-
  The walk of morph.Extend.
-/
import Derived.Test.YtgghmjnbkbiffaaReach
import Derived.Test.YtgghmjnbkbiffaaExtR
import Derived.StillTailTactics
namespace Go.Proofs.Ytgghmjnbkbiffaa
open Go.RowKit
set_option linter.unusedVariables false

/-- reached with x, if it is not there. -/
def addR (F : Nat → Int) (made : List Nat) (x : Nat) : List Nat := if F x < 0 then made ++ [x] else made

def ReGood (w : World) (base n gb gi gm : Nat) (F : Nat → Int) (vm : Value) (made : List Nat) (x im : Nat) (e : Ending) (w' : World) : Prop :=
  e = .returned (.bool true) ∧ ∃ vm', ReIn w' base n gb gi gm (upd F x im) vm' (addR F made x) ∧ Only (fun k => k = gi ∨ k = gm ∨ vm.ownBlock = some k) w w' ∧ ∀ g, vm.ownBlock = some g → ∀ j, j < lnx made → w'.cell? ⟨g, j, none⟩ = some (.int .i64 ((nthx made j : Nat) : Int))

theorem reach_good (w : World) (base n gb gi gm : Nat) (F : Nat → Int) (vm : Value) (made : List Nat) (h : ReIn w base n gb gi gm F vm made) (x im : Nat) (hx : x < n) (hn : n ≤ 400) (hf : F x < 0 ∨ F x = (im : Int)) (hlen : F x < 0 → lnx made < 400) :
    Calls Try.prog 66 #[.int .i64 x, .int .i64 im, .pointer (some ⟨gb, 0, none⟩), .pointer (some ⟨gm, 0, none⟩)] w (ReGood w base n gb gi gm F vm made x im) := by
  by_cases hneg : F x < 0
  · refine (reach_new w base n gb gi gm F vm made h x im hx hn hneg (hlen hneg)).mono ?_
    rintro e w' ⟨rfl, vm', h1, h2, h3, h4⟩
    exact ⟨rfl, vm', by unfold addR; rw [if_pos hneg]; exact h1, h2, h4⟩
  · have heq : F x = (im : Int) := by rcases hf with h | h; exact absurd h hneg; exact h
    refine (reach_old w base n gb gi gm F vm made h x im hx hn (by omega)).mono ?_
    rintro e w' ⟨rfl, rfl⟩
    have hu : upd F x im = F := by
      funext j
      unfold upd
      by_cases e : j = x
      · rw [if_pos e, e, heq]
      · rw [if_neg e]
    refine ⟨by rw [beq_t heq], vm, by unfold addR; rw [if_neg hneg, hu]; exact h, Only.refl _ _, fun g hg j hj => ?_⟩
    obtain ⟨a, c, rfl, -, -, h3⟩ := h.own.shape
    obtain ⟨g2, rfl, -, h4⟩ := h3 (by omega)
    simp [Value.ownBlock] at hg
    subst hg
    exact h4 j hj

/-- The numbers at the head of each loop. -/
structure RNum (t : List (List Int)) (gens : List Int) (s : List (List Int)) (images : List Int) (k : Nat) (F : Nat → Int) (made : List Nat) : Prop where
  inv : EInv t gens s images k F
  mem : ∀ x, x < lnx t → (0 ≤ F x ↔ x ∈ made)
  nd : made.Nodup
  lt : ∀ x, x ∈ made → x < lnx t
  gen : ∀ x, x ∈ made → Gen (lnx t) (tabOf t) gens x

section
variable {t : List (List Int)} {gens : List Int} {s : List (List Int)} {images : List Int} {k : Nat} {F : Nat → Int} {made : List Nat}
theorem RNum.len (h : RNum t gens s images k F made) : lnx made ≤ lnx t := nodup_le h.nd h.lt
theorem RNum.room (h : RNum t gens s images k F made) {x : Nat} (hx : x < lnx t) (hnm : x ∉ made) : lnx made < lnx t := by
  have := nodup_le (n := lnx t) (List.nodup_cons.2 ⟨hnm, h.nd⟩) (fun y hy => by
    rcases List.mem_cons.1 hy with rfl | hy
    · exact hx
    · exact h.lt y hy)
  simp only [lnx, List.length_cons] at this ⊢
  omega
theorem RNum.out (h : RNum t gens s images k F made) {x : Nat} (hx : x < lnx t) (hn : F x < 0) : x ∉ made := fun hm => by have := (h.mem x hx).2 hm; omega
theorem RNum.full (h : RNum t gens s images k F made) (hl : lnx t ≤ lnx made) {x : Nat} (hx : x < lnx t) : x ∈ made := Classical.byContradiction fun hn => by
  have := h.room hx hn
  omega
theorem cover_len : ∀ (n : Nat) (l : List Nat), (∀ x, x < n → x ∈ l) → n ≤ l.length
  | 0, _, _ => Nat.zero_le _
  | n + 1, l, h => by
    have h1 := cover_len n (l.erase n) (fun x hx => (List.mem_erase_of_ne (by omega)).2 (h x (by omega)))
    have h2 := List.length_erase_of_mem (h n (by omega))
    have h3 := List.length_pos_of_mem (h n (by omega))
    omega
/-- Products of reached elements with generators are reached: all that is generated is. -/
theorem RNum.reaches (h : RNum t gens s images k F made) (ha : Assoc (lnx t) (tabOf t)) (hT : ∀ r c, r < lnx t → c < lnx t → tabOf t r c < lnx t) (hb : ∀ i, i < lnx gens → nat_ gens i ∈ made) (hc : ∀ x, x ∈ made → ∀ i, i < lnx gens → tabOf t x (nat_ gens i) ∈ made) {y : Nat} (hy : Gen (lnx t) (tabOf t) gens y) :
    y ∈ made ∧ ∀ x, x ∈ made → tabOf t x y ∈ made := by
  induction hy with
  | base i hi e hx =>
    rw [← nat_of e]
    exact ⟨hb i hi, fun x hx => hc x hx i hi⟩
  | mul h1 h2 e1 e2 =>
    refine ⟨e2.2 _ e1.1, fun x hx => ?_⟩
    rw [← ha x _ _ (h.lt x hx) (h1.lt hT) (h2.lt hT)]
    exact e2.2 _ (e1.2 x hx)
theorem RNum.fails (h : RNum t gens s images k F made) (hT : ∀ r c, r < lnx t → c < lnx t → tabOf t r c < lnx t) (hb : ∀ i, i < lnx gens → nat_ gens i ∈ made) (hc : ∀ x, x ∈ made → ∀ i, i < lnx gens → tabOf t x (nat_ gens i) ∈ made) (hl : lnx made < lnx t) (f : List Int) : ¬ ExtOK t gens s images f := by
  intro hf
  have := cover_len (lnx t) made (fun x hx => (h.reaches (vErr_inv hf.vt).2 hT hb hc (hf.gen x hx)).1)
  have e : lnx made = made.length := rfl
  omega
theorem RNum.hom (h : RNum t gens s images (lnx gens) F made) (hl : lnx t ≤ lnx made) (v1 : vErr t = 0) (v2 : vErr s = 0) (hlen : lnx gens = lnx images) (ing : inB (lnx t) gens = true) (ini : inB (lnx s) images = true)
    (hc : ∀ x, x ∈ made → ∀ i, i < lnx gens → F (tabOf t x (nat_ gens i)) = (tabOf s (F x).toNat (F (nat_ gens i)).toNat : Int)) : ExtOK t gens s images (listF F (lnx t)) := by
  have hT : ∀ r c, r < lnx t → c < lnx t → tabOf t r c < lnx t := fun r c => tab_lt (vErr_inv v1).1
  have hU : ∀ r c, r < lnx s → c < lnx s → tabOf s r c < lnx s := fun r c => tab_lt (vErr_inv v2).1
  have aT := (vErr_inv v1).2
  have aU := (vErr_inv v2).2
  have h00 : ∀ x, x < lnx t → 0 ≤ F x := fun x hx => (h.mem x hx).2 (h.full hl hx)
  have hm : ∀ x, x < lnx t → (F x).toNat < lnx s := fun x hx => by have := h.inv.rng x hx; have := h00 x hx; omega
  have key : ∀ y, Gen (lnx t) (tabOf t) gens y → ∀ x, x < lnx t → (F (tabOf t x y)).toNat = tabOf s (F x).toNat (F y).toNat := by
    intro y hy
    induction hy with
    | base i hi e hx =>
      intro x hx
      rw [← nat_of e, hc x (h.full hl hx) i hi]
      exact Int.toNat_natCast _
    | mul h1 h2 e1 e2 =>
      intro x hx
      have l1 := h1.lt hT
      have l2 := h2.lt hT
      rw [← aT x _ _ hx l1 l2, e2 _ (hT x _ hx l1), e1 x hx, e2 _ l1, aU _ _ _ (hm x hx) (hm _ l1) (hm _ l2)]
  refine h.inv.ok v1 v2 hlen ing ini (fun x hx => h.gen x (h.full hl hx)) (homL_good (lnx_listF F _) (inB_t (fun i hi => ?_)) (fun x y hx hy => ?_))
  · rw [lnx_listF] at hi
    rw [nthx_listF F hi]
    exact ⟨h00 i hi, (h.inv.rng i hi).2⟩
  · rw [nat_listF F (hT x y hx hy), nat_listF F hx, nat_listF F hy]
    exact key y (h.gen y (h.full hl hy)) x hx
theorem addR_mem {x y : Nat} : y ∈ addR F made x ↔ y ∈ made ∨ (F x < 0 ∧ y = x) := by
  unfold addR
  by_cases h : F x < 0 <;> simp [h]
theorem addR_len (x : Nat) : lnx made ≤ lnx (addR F made x) := by
  unfold addR
  split
  · rw [lnx_append]; omega
  · omega
theorem addR_nth (x : Nat) {i : Nat} (hi : i < lnx made) : nthx (addR F made x) i = nthx made i := by
  unfold addR
  split
  · exact nthx_append_lt _ _ hi
  · rfl
theorem RNum.add {k' x im : Nat} (h : RNum t gens s images k F made) (hx : x < lnx t) (hg : Gen (lnx t) (tabOf t) gens x) (hi : EInv t gens s images k' (upd F x im)) : RNum t gens s images k' (upd F x im) (addR F made x) := by
  refine ⟨hi, fun y hy => ?_, ?_, fun y hy => ?_, fun y hy => ?_⟩
  · rw [addR_mem]
    by_cases e : y = x
    · subst e
      rw [upd_same]
      have := h.mem y hy
      constructor
      · intro _
        by_cases hn : F y < 0
        · exact .inr ⟨hn, rfl⟩
        · exact .inl (this.1 (by omega))
      · intro _; omega
    · rw [upd_other F _ e, h.mem y hy]
      simp [e]
  · unfold addR
    split
    · rename_i hn
      rw [List.nodup_append]
      refine ⟨h.nd, by simp, fun a ha b hb => ?_⟩
      simp at hb
      subst hb
      rintro rfl
      have := (h.mem a hx).2 ha
      omega
    · exact h.nd
  · rcases addR_mem.1 hy with hy | ⟨_, rfl⟩
    · exact h.lt y hy
    · exact hx
  · rcases addR_mem.1 hy with hy | ⟨_, rfl⟩
    · exact h.gen y hy
    · exact hg
end
end Go.Proofs.Ytgghmjnbkbiffaa
