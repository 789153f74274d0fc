/-
  Extensions of maps of generators, in plain Lean.
-/
import Derived.Test.YtgghmjnbkbiffaaGen
namespace Go.Proofs.Ytgghmjnbkbiffaa
open Go.RowKit
set_option linter.unusedVariables false

/-- f is the homomorphism that extends the map of the generators. -/
structure ExtOK (t : List (List Int)) (gens : List Int) (s : List (List Int)) (images : List Int) (f : List Int) : Prop where
  vt : vErr t = 0
  vs : vErr s = 0
  len : lnx gens = lnx images
  ing : inB (lnx t) gens = true
  ini : inB (lnx s) images = true
  gen : ∀ x, x < lnx t → Gen (lnx t) (tabOf t) gens x
  hom : homL (lnx t) (lnx s) (tabOf t) (tabOf s) f = true
  on : ∀ i, i < lnx gens → nat_ f (nat_ gens i) = nat_ images i

theorem nat_of {gens : List Int} {i x : Nat} (e : nthx gens i = (x : Int)) : nat_ gens i = x := by unfold nat_; rw [e]; exact Int.toNat_natCast _
theorem ExtOK.unique {t : List (List Int)} {gens : List Int} {s : List (List Int)} {images f g : List Int} (hf : ExtOK t gens s images f) (hg : ExtOK t gens s images g) : f = g := by
  obtain ⟨f1, f2, f3⟩ := homL_inv hf.hom
  obtain ⟨g1, g2, g3⟩ := homL_inv hg.hom
  have hsh := shape_inv (vErr_inv hf.vt).1
  have hT : ∀ r c, r < lnx t → c < lnx t → tabOf t r c < lnx t := fun r c => tab_lt (vErr_inv hf.vt).1
  have key : ∀ x, Gen (lnx t) (tabOf t) gens x → nat_ f x = nat_ g x := by
    intro x hx
    induction hx with
    | base i hi e hx =>
      rw [← nat_of e, hf.on i hi, hg.on i hi]
    | mul h1 h2 e1 e2 => rw [f3 _ _ (h1.lt hT) (h2.lt hT), g3 _ _ (h1.lt hT) (h2.lt hT), e1, e2]
  refine list_ext (by omega) (fun i hi => ?_)
  rw [← (nat_cast f2 hi).1, ← (nat_cast g2 (by omega)).1, key i (hf.gen i (by omega))]

def MexPost (w : World) (t : List (List Int)) (gens : List Int) (s : List (List Int)) (images : List Int) (e : Ending) (w' : World) : Prop :=
  ∃ v ok, e = .returned (.tuple #[v, .bool ok]) ∧ Below w.heap.size w w' ∧ (ok = true → ∃ f, Ints w' v f ∧ ExtOK t gens s images f) ∧ (ok = false → Ints w' v [] ∧ ∀ f, ¬ ExtOK t gens s images f)

/-- The cells of a map in the making. -/
structure EInv (t : List (List Int)) (gens : List Int) (s : List (List Int)) (images : List Int) (k : Nat) (F : Nat → Int) : Prop where
  rng : ∀ x, x < lnx t → -1 ≤ F x ∧ F x < (lnx s : Int)
  on : ∀ i, i < k → F (nat_ gens i) = (nat_ images i : Int)
  sound : ∀ f, ExtOK t gens s images f → ∀ x, x < lnx t → 0 ≤ F x → (nat_ f x : Int) = F x

theorem EInv.start (t : List (List Int)) (gens : List Int) (s : List (List Int)) (images : List Int) : EInv t gens s images 0 (fun _ => -1) :=
  ⟨fun x _ => by omega, fun i hi => by omega, fun f _ x _ h => by omega⟩
theorem EInv.gen {t : List (List Int)} {gens : List Int} {s : List (List Int)} {images : List Int} {k : Nat} {F : Nat → Int} (h : EInv t gens s images k F) (hk : k < lnx gens) (hl : lnx gens = lnx images) (hi : inB (lnx s) images = true)
    (hc : F (nat_ gens k) < 0 ∨ F (nat_ gens k) = (nat_ images k : Int)) : EInv t gens s images (k + 1) (upd F (nat_ gens k) (nat_ images k)) := by
  refine ⟨fun x hx => ?_, fun i hi2 => ?_, fun f hf x hx h0 => ?_⟩
  · have := (nat_cast hi (i := k) (by omega)).2
    by_cases e : x = nat_ gens k
    · rw [e, upd_same]; omega
    · rw [upd_other F _ e]; exact h.rng x hx
  · by_cases e : nat_ gens i = nat_ gens k
    · rw [e, upd_same]
      by_cases e2 : i = k
      · rw [e2]
      · have := h.on i (by omega)
        rw [e] at this
        rcases hc with hc | hc
        · omega
        · omega
    · rw [upd_other F _ e]
      by_cases e2 : i = k
      · rw [e2] at e; exact absurd rfl e
      · exact h.on i (by omega)
  · by_cases e : x = nat_ gens k
    · rw [e, upd_same, hf.on k hk]
    · rw [upd_other F _ e] at h0 ⊢
      exact h.sound f hf x hx h0
theorem EInv.clash {t : List (List Int)} {gens : List Int} {s : List (List Int)} {images : List Int} {k : Nat} {F : Nat → Int} (h : EInv t gens s images k F) (hk : k < lnx gens)
    (h0 : 0 ≤ F (nat_ gens k)) (hc : F (nat_ gens k) ≠ (nat_ images k : Int)) (f : List Int) : ¬ ExtOK t gens s images f := by
  intro hf
  have hx := (nat_cast hf.ing hk).2
  have := h.sound f hf _ hx h0
  rw [hf.on k hk] at this
  exact hc this.symm
/-- A product of two whose images are known. -/
theorem EInv.mul {t : List (List Int)} {gens : List Int} {s : List (List Int)} {images : List Int} {k : Nat} {F : Nat → Int} (h : EInv t gens s images k F) (hU : ∀ r c, r < lnx s → c < lnx s → tabOf s r c < lnx s) {x y fx fy : Nat} (hx : x < lnx t) (hy : y < lnx t) (ex : F x = fx) (ey : F y = fy)
    (hz : F (tabOf t x y) < 0) : EInv t gens s images k (upd F (tabOf t x y) (tabOf s fx fy)) := by
  have hfx : fx < lnx s := by have := h.rng x hx; omega
  have hfy : fy < lnx s := by have := h.rng y hy; omega
  refine ⟨fun a ha => ?_, fun i hi => ?_, fun f hf a ha h0 => ?_⟩
  · have := hU fx fy hfx hfy
    by_cases e : a = tabOf t x y
    · rw [e, upd_same]; omega
    · rw [upd_other F _ e]; exact h.rng a ha
  · by_cases e : nat_ gens i = tabOf t x y
    · have := h.on i hi
      rw [e] at this
      omega
    · rw [upd_other F _ e]; exact h.on i hi
  · by_cases e : a = tabOf t x y
    · rw [e, upd_same, (homL_inv hf.hom).2.2 x y hx hy]
      have e1 := h.sound f hf x hx (by omega)
      have e2 := h.sound f hf y hy (by omega)
      rw [show nat_ f x = fx by omega, show nat_ f y = fy by omega]
    · rw [upd_other F _ e] at h0 ⊢
      exact h.sound f hf a ha h0
theorem EInv.no {t : List (List Int)} {gens : List Int} {s : List (List Int)} {images : List Int} {k : Nat} {F : Nat → Int} (h : EInv t gens s images k F) {x y fx fy : Nat} (hx : x < lnx t) (hy : y < lnx t) (ex : F x = fx) (ey : F y = fy) (hzl : tabOf t x y < lnx t)
    (h0 : 0 ≤ F (tabOf t x y)) (hz : F (tabOf t x y) ≠ (tabOf s fx fy : Int)) (f : List Int) : ¬ ExtOK t gens s images f := by
  intro hf
  have e1 := h.sound f hf x hx (by omega)
  have e2 := h.sound f hf y hy (by omega)
  have e3 := h.sound f hf _ hzl h0
  rw [(homL_inv hf.hom).2.2 x y hx hy, show nat_ f x = fx by omega, show nat_ f y = fy by omega] at e3
  exact hz e3.symm

/-- The first n values as a list. -/
def listF (F : Nat → Int) (n : Nat) : List Int := (List.range n).map F
theorem lnx_listF (F : Nat → Int) (n : Nat) : lnx (listF F n) = n := by simp [listF, lnx]
theorem nthx_listF (F : Nat → Int) {n i : Nat} (h : i < n) : nthx (listF F n) i = F i := by simp [listF, nthx, h]
theorem nat_listF (F : Nat → Int) {n i : Nat} (h : i < n) : nat_ (listF F n) i = (F i).toNat := by unfold nat_; rw [nthx_listF F h]

theorem EInv.is {t : List (List Int)} {gens : List Int} {s : List (List Int)} {images : List Int} {k : Nat} {F : Nat → Int} (h : EInv t gens s images k F) (h0 : ∀ x, x < lnx t → 0 ≤ F x) {f : List Int} (hf : ExtOK t gens s images f) : f = listF F (lnx t) := by
  obtain ⟨f1, f2, f3⟩ := homL_inv hf.hom
  refine list_ext (by rw [lnx_listF]; exact f1) (fun i hi => ?_)
  rw [nthx_listF F (by omega), ← (nat_cast f2 hi).1]
  exact h.sound f hf i (by omega) (h0 i (by omega))
theorem EInv.ok {t : List (List Int)} {gens : List Int} {s : List (List Int)} {images : List Int} {F : Nat → Int} (h : EInv t gens s images (lnx gens) F) (vt : vErr t = 0) (vs : vErr s = 0) (hl : lnx gens = lnx images) (hg : inB (lnx t) gens = true) (hi : inB (lnx s) images = true)
    (gen : ∀ x, x < lnx t → Gen (lnx t) (tabOf t) gens x) (hh : homL (lnx t) (lnx s) (tabOf t) (tabOf s) (listF F (lnx t)) = true) : ExtOK t gens s images (listF F (lnx t)) :=
  ⟨vt, vs, hl, hg, hi, gen, hh, fun i hi2 => by
    rw [nat_listF F (nat_cast hg hi2).2, h.on i hi2]
    exact Int.toNat_natCast _⟩
/-- All elements are generated: all images are known where known images make known ones. -/
theorem EInv.total {t : List (List Int)} {gens : List Int} {s : List (List Int)} {images : List Int} {F : Nat → Int} (h : EInv t gens s images (lnx gens) F) (hT : ∀ r c, r < lnx t → c < lnx t → tabOf t r c < lnx t)
    (hc : ∀ a b, a < lnx t → b < lnx t → 0 ≤ F a → 0 ≤ F b → 0 ≤ F (tabOf t a b)) {x : Nat} (hx : Gen (lnx t) (tabOf t) gens x) : 0 ≤ F x := by
  induction hx with
  | base i hi e hx =>
    rw [← nat_of e, h.on i hi]
    omega
  | mul h1 h2 e1 e2 => exact hc _ _ (h1.lt hT) (h2.lt hT) e1 e2
theorem all_gen {n : Nat} {T : Nat → Nat → Nat} {gens : List Int} : lnx (natsOf ((List.range n).filter (genB n T gens))) = n ↔ ∀ x, x < n → Gen n T gens x := by
  rw [lnx_natsOf]
  have h : lnx ((List.range n).filter (genB n T gens)) = n ↔ ((List.range n).filter (genB n T gens)).length = (List.range n).length := by simp [lnx]
  rw [h, List.length_filter_eq_length_iff]
  constructor
  · intro h x hx
    exact genB_iff.1 (h x (by simpa using hx))
  · intro h x hx
    exact genB_iff.2 (h x (by simpa using hx))
end Go.Proofs.Ytgghmjnbkbiffaa
