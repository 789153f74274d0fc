/-
  Plain mathematics of the search of homomorphisms: the list of all homomorphisms in lexicographic order, and how the search by partial maps walks it. No program in sight.
-/
import Derived.Test.YtgghmjnbkbiffaaM20
import Derived.Test.YtgghmjnbkbiffaaOwn
namespace Go.Proofs.Ytgghmjnbkbiffaa
set_option linter.unusedVariables false

/-- All lists that begin with p, have k elements more, each below m, and satisfy H, in lexicographic order. -/
def lexExt (H : List Nat → Bool) (m : Nat) : Nat → List Nat → List (List Nat)
  | 0, p => if H p then [p] else []
  | k + 1, p => (List.range m).flatMap fun y => lexExt H m k (p ++ [y])

theorem lexExt_mem {H : List Nat → Bool} {m : Nat} : ∀ {k : Nat} {p h : List Nat}, h ∈ lexExt H m k p → H h = true ∧ h.length = p.length + k ∧ (∀ i, i < p.length → nthx h i = nthx p i) ∧ ∀ i, p.length ≤ i → i < p.length + k → nthx h i < m
  | 0, p, h, hh => by
    unfold lexExt at hh
    split at hh
    · simp at hh
      subst hh
      exact ⟨by assumption, by simp, fun _ _ => rfl, fun i h1 h2 => by omega⟩
    · simp at hh
  | k + 1, p, h, hh => by
    unfold lexExt at hh
    simp only [List.mem_flatMap, List.mem_range] at hh
    obtain ⟨y, hy, hh⟩ := hh
    obtain ⟨h1, h2, h3, h4⟩ := lexExt_mem hh
    simp at h2
    refine ⟨h1, by omega, fun i hi => ?_, fun i hi hi2 => ?_⟩
    · rw [h3 i (by simp; omega)]
      exact nthx_append_lt p [y] hi
    · by_cases e : i = p.length
      · subst e
        rw [h3 _ (by simp)]
        rw [show p.length = lnx p from rfl, nthx_append_new]
        exact hy
      · exact h4 i (by simp; omega) (by simp; omega)
theorem lexExt_all {H : List Nat → Bool} {m : Nat} : ∀ {k : Nat} {p h : List Nat}, H h = true → h.length = p.length + k → (∀ i, i < p.length → nthx h i = nthx p i) → (∀ i, p.length ≤ i → i < p.length + k → nthx h i < m) → h ∈ lexExt H m k p
  | 0, p, h, h1, h2, h3, _ => by
    have : h = p := list_ext (by simpa [lnx] using h2) (fun i hi => h3 i (by simp [lnx] at hi; omega))
    subst this
    simp [lexExt, h1]
  | k + 1, p, h, h1, h2, h3, h4 => by
    unfold lexExt
    simp only [List.mem_flatMap, List.mem_range]
    refine ⟨nthx h p.length, h4 _ (Nat.le_refl _) (by omega), lexExt_all h1 (by simp; omega) (fun i hi => ?_) (fun i hi hi2 => h4 i (by simp at hi; omega) (by simp at hi2; omega))⟩
    simp at hi
    by_cases e : i < p.length
    · rw [nthx_append_lt p _ e]; exact h3 i e
    · obtain rfl : i = p.length := by omega
      rw [show p.length = lnx p from rfl, nthx_append_new]

open Classical in
/-- The list is a homomorphism. -/
noncomputable def homB (n m : Nat) (T U : Nat → Nat → Nat) (inj : Bool) (h : List Nat) : Bool := decide (IsHomF n m T U inj (nthx h))
open Classical in
noncomputable def agreeB (n : Nat) (F : Nat → Int) (h : List Nat) : Bool := decide (Agree n F (nthx h))

/-- The first x values of a partial map. -/
def preF (F : Nat → Int) (x : Nat) : List Nat := (List.range x).map fun i => (F i).toNat
theorem preF_len (F : Nat → Int) (x : Nat) : (preF F x).length = x := by simp [preF]
theorem preF_nth (F : Nat → Int) {x i : Nat} (h : i < x) : nthx (preF F x) i = (F i).toNat := by simp [nthx, preF, h]
theorem preF_succ (F : Nat → Int) (x : Nat) : preF F (x + 1) = preF F x ++ [(F x).toNat] := by simp [preF, List.range_succ]
theorem preF_congr {F G : Nat → Int} {x : Nat} (h : ∀ i, i < x → F i = G i) : preF F x = preF G x := by
  unfold preF
  apply List.map_congr_left
  intro i hi
  rw [h i (List.mem_range.1 hi)]

/-- The homomorphisms that agree with F, which is defined below x. -/
noncomputable def homsF (n m : Nat) (T U : Nat → Nat → Nat) (inj : Bool) (F : Nat → Int) (x : Nat) : List (List Nat) := (lexExt (homB n m T U inj) m (n - x) (preF F x)).filter (agreeB n F)
/-- Of these, those with a value below y at x. -/
noncomputable def homsY (n m : Nat) (T U : Nat → Nat → Nat) (inj : Bool) (F : Nat → Int) (x y : Nat) : List (List Nat) := (List.range y).flatMap fun z => (lexExt (homB n m T U inj) m (n - (x + 1)) (preF F x ++ [z])).filter (agreeB n F)

section
variable {n m : Nat} {T U : Nat → Nat → Nat} {inj : Bool} {F F' : Nat → Int} {x : Nat}

theorem filter_flatMap {α β : Type} (l : List α) (f : α → List β) (p : β → Bool) : (l.flatMap f).filter p = l.flatMap fun a => (f a).filter p := by
  induction l with
  | nil => rfl
  | cons a l ih => simp [List.flatMap_cons, ih]

theorem homsF_split (hx : x < n) : homsF n m T U inj F x = homsY n m T U inj F x m := by
  unfold homsF homsY
  rw [show n - x = (n - (x + 1)) + 1 by omega, lexExt, filter_flatMap]
theorem homsY_zero : homsY n m T U inj F x 0 = [] := rfl
theorem homsY_succ (y : Nat) : homsY n m T U inj F x (y + 1) = homsY n m T U inj F x y ++ (lexExt (homB n m T U inj) m (n - (x + 1)) (preF F x ++ [y])).filter (agreeB n F) := by
  unfold homsY
  simp [List.range_succ, List.flatMap_append]

theorem agreeB_iff {h : List Nat} : agreeB n F h = true ↔ Agree n F (nthx h) := by simp [agreeB]
theorem homB_iff {h : List Nat} : homB n m T U inj h = true ↔ IsHomF n m T U inj (nthx h) := by simp [homB]

/-- Where the value at x is known, the others fall away. -/
theorem homsF_forced (hx : x < n) (hF : 0 ≤ F x) (hm : F x < m) : homsF n m T U inj F x = homsF n m T U inj F (x + 1) := by
  rw [homsF_split hx]
  have key : ∀ y, y ≤ m → homsY n m T U inj F x y = if (F x).toNat < y then homsF n m T U inj F (x + 1) else [] := by
    intro y
    induction y with
    | zero => intro _; simp [homsY_zero]
    | succ y ih =>
      intro hy
      rw [homsY_succ, ih (by omega)]
      by_cases e : (F x).toNat = y
      · rw [if_neg (by omega), if_pos (by omega)]
        unfold homsF
        rw [preF_succ, e]
        simp
      · have hnil : (lexExt (homB n m T U inj) m (n - (x + 1)) (preF F x ++ [y])).filter (agreeB n F) = [] := by
          rw [List.filter_eq_nil_iff]
          intro h hh hag
          obtain ⟨_, _, h3, _⟩ := lexExt_mem hh
          have h4 := agreeB_iff.1 hag x hx hF
          have h5 := h3 x (by simp [preF_len])
          have h6 : nthx (preF F x ++ [y]) (lnx (preF F x)) = y := nthx_append_new _ _
          rw [show lnx (preF F x) = x by simp [lnx, preF_len]] at h6
          omega
        rw [hnil, List.append_nil]
        by_cases e2 : (F x).toNat < y
        · rw [if_pos e2, if_pos (by omega)]
        · rw [if_neg e2, if_neg (by omega)]
  rw [key m (Nat.le_refl _), if_pos (by omega)]

/-- The end: all are defined. -/
theorem homsF_end (hcl : Closed n T U inj F) (hr : ∀ a, a < n → F a < m) (hd : ∀ a, a < n → 0 ≤ F a) (hT : ∀ r c, r < n → c < n → T r c < n) : homsF n m T U inj F n = [preF F n] := by
  unfold homsF
  rw [Nat.sub_self]
  have hnth : ∀ a, a < n → ((nthx (preF F n) a : Nat) : Int) = F a := fun a ha => by rw [preF_nth F ha]; have := hd a ha; omega
  have hh : homB n m T U inj (preF F n) = true := by
    rw [homB_iff]
    refine ⟨fun a b ha hb => ?_, fun a ha => ?_, fun hi a b ha hb hne e => ?_⟩
    · have h1 := (hcl a b ha hb (hd a ha) (hd b hb)).1
      have h2 := hnth _ (hT a b ha hb)
      rw [preF_nth F ha, preF_nth F hb]
      omega
    · have := hnth a ha
      have := hr a ha
      omega
    · have h1 := (hcl a b ha hb (hd a ha) (hd b hb)).2 hi hne
      have := hnth a ha
      have := hnth b hb
      omega
  have hag : agreeB n F (preF F n) = true := agreeB_iff.2 (fun a ha _ => (hnth a ha).symm)
  simp [lexExt, hh, hag]

/-- A branch that define refuses. -/
theorem branch_none (hx : x < n) (y : Nat) (h : ∀ f, IsHomF n m T U inj f → ¬ Agree n (upd F x y) f) : (lexExt (homB n m T U inj) m (n - (x + 1)) (preF F x ++ [y])).filter (agreeB n F) = [] := by
  rw [List.filter_eq_nil_iff]
  intro f hf hag
  obtain ⟨h1, _, h3, _⟩ := lexExt_mem hf
  refine h (nthx f) (homB_iff.1 h1) (fun a ha h0 => ?_)
  by_cases e : a = x
  · subst e
    rw [upd_same, h3 a (by simp [preF_len])]
    have : nthx (preF F a ++ [y]) (lnx (preF F a)) = y := nthx_append_new _ _
    rw [show lnx (preF F a) = a by simp [lnx, preF_len]] at this
    rw [this]
  · rw [upd_other F _ e] at h0 ⊢
    exact agreeB_iff.1 hag a ha h0

/-- A branch that define takes. -/
theorem branch_some (hx : x < n) (hun : F x < 0) (hbel : ∀ a, a < x → 0 ≤ F a) (y : Nat) (hinv : DInv n m T U inj (upd F x y) F' []) :
    (lexExt (homB n m T U inj) m (n - (x + 1)) (preF F x ++ [y])).filter (agreeB n F) = homsF n m T U inj F' (x + 1) := by
  have hx' : F' x = y := by
    have := hinv.ext x hx (by rw [upd_same]; omega)
    rw [this, upd_same]
  have hlow : ∀ i, i < x → F' i = F i := fun i hi => by
    have := hinv.ext i (by omega) (by rw [upd_other F _ (by omega)]; exact hbel i hi)
    rw [this, upd_other F _ (by omega)]
  have hpre : preF F' (x + 1) = preF F x ++ [y] := by
    rw [preF_succ, preF_congr hlow, hx']
    simp
  unfold homsF
  rw [hpre]
  apply List.filter_congr
  intro f hf
  obtain ⟨h1, _, h3, _⟩ := lexExt_mem hf
  have hfx : nthx f x = y := by
    rw [h3 x (by simp [preF_len])]
    have : nthx (preF F x ++ [y]) (lnx (preF F x)) = y := nthx_append_new _ _
    rwa [show lnx (preF F x) = x by simp [lnx, preF_len]] at this
  rw [Bool.eq_iff_iff, agreeB_iff, agreeB_iff]
  constructor
  · intro hag
    refine hinv.hom (nthx f) (homB_iff.1 h1) (fun a ha h0 => ?_)
    by_cases e : a = x
    · subst e; rw [upd_same, hfx]
    · rw [upd_other F _ e] at h0 ⊢; exact hag a ha h0
  · intro hag a ha h0
    by_cases e : a = x
    · subst e; omega
    · have := hinv.ext a ha (by rw [upd_other F _ e]; exact h0)
      rw [upd_other F _ e] at this
      rw [← this]
      exact hag a ha (by rw [this]; exact h0)
end

/-- All homomorphisms. -/
noncomputable def homs (n m : Nat) (T U : Nat → Nat → Nat) (inj : Bool) : List (List Nat) := lexExt (homB n m T U inj) m n []

theorem homs_eq (n m : Nat) (T U : Nat → Nat → Nat) (inj : Bool) : homsF n m T U inj (fun _ => -1) 0 = homs n m T U inj := by
  unfold homsF homs
  rw [List.filter_eq_self.2]
  · rfl
  · intro h _
    exact agreeB_iff.2 (fun a _ h0 => by omega)

theorem flatMap_len {α β : Type} (l : List α) (f : α → List β) (k : Nat) (h : ∀ a ∈ l, (f a).length ≤ k) : (l.flatMap f).length ≤ l.length * k := by
  induction l with
  | nil => simp
  | cons a l ih =>
    have h1 := h a (by simp)
    have h2 := ih (fun b hb => h b (by simp [hb]))
    simp only [List.flatMap_cons, List.length_append, List.length_cons, Nat.add_mul]
    omega
theorem lexExt_len (H : List Nat → Bool) (m : Nat) : ∀ (k : Nat) (p : List Nat), (lexExt H m k p).length ≤ m ^ k
  | 0, p => by unfold lexExt; split <;> simp
  | k + 1, p => by
    unfold lexExt
    have := flatMap_len (List.range m) (fun y => lexExt H m k (p ++ [y])) (m ^ k) (fun y _ => lexExt_len H m k _)
    simp only [List.length_range] at this
    rw [Nat.pow_succ, Nat.mul_comm]
    exact this
end Go.Proofs.Ytgghmjnbkbiffaa
